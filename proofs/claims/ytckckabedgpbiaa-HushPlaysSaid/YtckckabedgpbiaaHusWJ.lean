/- The laws of package hush: the example that each asks for. -/
import Derived.Test.YtckckabedgpbiaaHusQJ
import Derived.Test.YtckckabedgpbiaaArpMJ
set_option linter.unusedSimpArgs false
set_option linter.unusedVariables false
set_option maxRecDepth 4000
namespace Go.Proofs.Ytckckabedgpbiaa
open Go.RowKit
def askB (mac : Vector UInt8 6) (ip want : Vector UInt8 4) : List UInt8 := arpS 1 mac mac0 ip want
theorem ask_parse (mac : Vector UInt8 6) (ip want : Vector UInt8 4) (w : World) :
  Calls Try.prog 43 #[.string ⟨(askB mac ip want).toArray⟩] w fun e w' => e = .returned (.tuple #[.agg (arpV 1 mac mac0 ip want).toArray, .int .i64 0]) ∧ Below w.heap.size w w' :=
 parse_printed 1 mac mac0 ip want w (.inl rfl)
theorem ask_ann (mac : Vector UInt8 6) (ip want : Vector UInt8 4) (h1 : (ip != Vector.replicate 4 0) = true) (h2 : grp mac = false) : AnnC allOnes mac 2054 (askB mac ip want) ip.toList mac true :=
 hAnn_arp_ok _ _ _ 1 mac mac0 ip want (ask_parse mac ip want) h1 h2
theorem ask_none (v : Int) (mac : Vector UInt8 6) (ip want : Vector UInt8 4) (w : World) {A M : Nat} {time : Int} {m : List HB} (h : HushT w A M time m) (h1 : (want == ip) = false) (hf : foundH v want.toList m = (mac0, false)) :
  AnsC (some ⟨A, 0, none⟩) v allOnes mac 2054 (askB mac ip want) w zeroFr false :=
 hAns_arp_none _ _ _ w v mac mac0 ip want h (ask_parse mac ip want) h1 hf
theorem ask_some (v : Int) (mac : Vector UInt8 6) (ip want : Vector UInt8 4) (w : World) {A M : Nat} {time : Int} {m : List HB} (h : HushT w A M time m) (h1 : (want == ip) = false) (who : Vector UInt8 6) (hf : foundH v want.toList m = (who, true)) :
  AnsC (some ⟨A, 0, none⟩) v allOnes mac 2054 (askB mac ip want) w (frameV mac who 2054 (arpS 2 who mac want ip)) true :=
 hAns_arp_some _ _ _ w v mac mac0 ip want h (ask_parse mac ip want) h1 who hf
def m2 : Vector UInt8 6 := #v[2, 0, 0, 0, 0, 0]
def m4 : Vector UInt8 6 := #v[4, 0, 0, 0, 0, 0]
def i1 : Vector UInt8 4 := #v[1, 0, 0, 0]
def i2 : Vector UInt8 4 := #v[2, 0, 0, 0]
def i3 : Vector UInt8 4 := #v[3, 0, 0, 0]
@[go_sem] theorem m2_c : (Value.int .u8 2 :: (u8v mac0).tail) = u8v m2 := rfl
@[go_sem] theorem m4_c : (Value.int .u8 4 :: (u8v mac0).tail) = u8v m4 := rfl
@[go_sem] theorem i1_c : (Value.int .u8 1 :: (zeros 4 (Value.int .u8 0)).tail) = u8v i1 := rfl
@[go_sem] theorem i2_c : (Value.int .u8 2 :: (zeros 4 (Value.int .u8 0)).tail) = u8v i2 := rfl
@[go_sem] theorem i3_c : (Value.int .u8 3 :: (zeros 4 (Value.int .u8 0)).tail) = u8v i3 := rfl
theorem question_b (mac : Vector UInt8 6) (ip want : Vector UInt8 4) (w : World) :
  Calls Try.prog 20 #[.agg (u8v mac).toArray, .agg (u8v ip).toArray, .agg (u8v want).toArray] w fun e w' => e = .returned (.agg (frameV allOnes mac 2054 (askB mac ip want)).toArray) ∧ Below w.heap.size w w' :=
 question_any mac ip want w
attribute [local irreducible] askB
set_option maxRecDepth 20000 in
set_option maxHeartbeats 4000000 in
theorem awake21_any (w : World) : Calls Try.prog 13 #[] w fun e w' => e = .returned (.bool true) ∧ Below w.heap.size w w' := by
 have HQ := Lib.hid (fun w => question_b m2 i1 i2 w)
 have HL := Lib.hid (fun w => question_b m4 i2 i3 w)
 obtain ⟨bq, hbq⟩ : ∃ x, askB m2 i1 i2 = x := ⟨_, rfl⟩
 obtain ⟨bl, hbl⟩ : ∃ x, askB m4 i2 i3 = x := ⟨_, rfl⟩
 rw [hbq] at HQ
 rw [hbl] at HL
 have HQ2 := Lib.hid (fun (w : World) (A M : Nat) (m : List HB) (h : HushT w A M 9 m) (h2 : foundH 5 i2.toList m = (mac0, false)) => ask_none 5 m2 i1 i2 w h (by decide) h2)
 have HQ3 := Lib.hid (fun (w : World) (A M : Nat) (m : List HB) (h : HushT w A M 9 m) (h2 : foundH 5 i2.toList m = (m4, true)) => ask_some 5 m2 i1 i2 w h (by decide) m4 h2)
 have HA := ask_ann m4 i2 i3 (by decide) (by decide)
 rw [hbl] at HA
 rw [hbq] at HQ2 HQ3
 have HL2 := Lib.hid (fun (w : World) (A M : Nat) (h : HushT w A M 9 []) (hn : A ≠ M) => hLearn_kept allOnes m4 2054 bl i2.toList m4 w 5 h hn HA (.inr (by simp)))
 obtain ⟨br, hbr⟩ : ∃ x, arpS 2 m4 m2 i2 i1 = x := ⟨_, rfl⟩
 rw [hbr] at HQ3
 clear hbq hbl HA hbr
 unfold AnsC zeroFr at HQ2
 unfold AnsC at HQ3
 unfold frameV at HQ HL HQ2 HQ3 HL2
 go_enter Try.func13, Try.ntmps13
 go_wp2_with fail
 (with_reducible refine (hNew_ok 9 _ (by decide) (by decide)).mono ?_)
 rintro e w1 ⟨rfl, b1, hT1, z1⟩
 obtain ⟨A, hA⟩ : ∃ x, w.heap.size + 1 = x := ⟨_, rfl⟩
 rw [hA] at hT1 ⊢
 have hMA : A ≠ w.heap.size := by omega
 go_wp2_with fail
 (with_reducible refine (HQ.out _).mono ?_)
 rintro e v1 ⟨rfl, b⟩
 have zv1 := b.size
 replace hT1 := hT1.below b (by omega) (by omega)
 replace b1 := b1.trans (b.mono (by omega))
 clear b
 obtain ⟨v2, hv2⟩ : ∃ x, v1.alloc (.cells (u8v allOnes ++ (u8v m2 ++ [Value.int .i64 2054, Value.string ⟨bq.toArray⟩])).toArray 32) = x := ⟨_, rfl⟩
 have rQ : row v2 v1.heap.size = (u8v allOnes ++ (u8v m2 ++ [Value.int .i64 2054, Value.string ⟨bq.toArray⟩])).toArray := by rw [← hv2]; exact row_alloc_at _ _ _ rfl
 have zv2 : v2.heap.size = v1.heap.size + 1 := by rw [← hv2]; exact alloc_sizeW _ _
 have b : Below v1.heap.size v1 v2 := by rw [← hv2]; exact Below.alloc (Below.refl _ _) (Nat.le_refl _) _
 replace hT1 := hT1.below b (by omega) (by omega)
 replace b1 := b1.trans (b.mono (by omega))
 clear b
 go_wp2_with fail
 clear hv2
 (with_reducible refine (HQ2.out _ _ _ _ hT1 (by decide)).mono ?_)
 rintro e v3 ⟨rfl, b⟩
 have zv3 := b.size
 replace rQ := (row_below b (by omega)).trans rQ
 replace hT1 := hT1.below b (by omega) (by omega)
 replace b1 := b1.trans (b.mono (by omega))
 clear b
 go_wp2_with fail
 obtain ⟨v4, hv4⟩ : ∃ x, v3.alloc (.cells (zeros 12 (Value.int .u8 0) ++ [Value.int .i64 0, Value.string ⟨#[]⟩]).toArray 32) = x := ⟨_, rfl⟩
 have rZ : row v4 v3.heap.size = (zeros 12 (Value.int .u8 0) ++ [Value.int .i64 0, Value.string ⟨#[]⟩]).toArray := by rw [← hv4]; exact row_alloc_at _ _ _ rfl
 have zv4 : v4.heap.size = v3.heap.size + 1 := by rw [← hv4]; exact alloc_sizeW _ _
 have b : Below v3.heap.size v3 v4 := by rw [← hv4]; exact Below.alloc (Below.refl _ _) (Nat.le_refl _) _
 replace rQ := (row_below b (by omega)).trans rQ
 replace hT1 := hT1.below b (by omega) (by omega)
 replace b1 := b1.trans (b.mono (by omega))
 clear b
 rw [hv4]
 clear hv4
 (with_reducible refine (HL.out _).mono ?_)
 rintro e v5 ⟨rfl, b⟩
 have zv5 := b.size
 replace rQ := (row_below b (by omega)).trans rQ
 replace hT1 := hT1.below b (by omega) (by omega)
 replace b1 := b1.trans (b.mono (by omega))
 clear b
 go_wp2_with fail
 (with_reducible refine (HL2.out _ _ _ hT1 hMA).mono ?_)
 rintro e v6 ⟨rfl, b, hTn⟩
 have zv6 := b.size
 replace rQ := (b.row (by omega) (by omega)).trans rQ
 replace b1 := b1.trans ((b.mono (by omega)).below (by omega))
 clear b
 replace hT1 := hTn
 go_wp2_with fail
 (with_reducible refine (HQ3.out _ _ _ _ hT1 (by decide)).mono ?_)
 rintro e v7 ⟨rfl, b⟩
 have zv7 := b.size
 replace rQ := (row_below b (by omega)).trans rQ
 replace hT1 := hT1.below b (by omega) (by omega)
 replace b1 := b1.trans (b.mono (by omega))
 clear b
 obtain ⟨v8, hv8⟩ : ∃ x, v7.alloc (.cells (u8v m2 ++ (u8v m4 ++ [Value.int .i64 2054, Value.string ⟨br.toArray⟩])).toArray 32) = x := ⟨_, rfl⟩
 have rF : row v8 v7.heap.size = (u8v m2 ++ (u8v m4 ++ [Value.int .i64 2054, Value.string ⟨br.toArray⟩])).toArray := by rw [← hv8]; exact row_alloc_at _ _ _ rfl
 have zv8 : v8.heap.size = v7.heap.size + 1 := by rw [← hv8]; exact alloc_sizeW _ _
 have b : Below v7.heap.size v7 v8 := by rw [← hv8]; exact Below.alloc (Below.refl _ _) (Nat.le_refl _) _
 replace rQ := (row_below b (by omega)).trans rQ
 replace hT1 := hT1.below b (by omega) (by omega)
 replace b1 := b1.trans (b.mono (by omega))
 clear b
 go_wp2_with fail
 clear hv8
 go_ret
 exact ⟨by simp, b1⟩
end Go.Proofs.Ytckckabedgpbiaa
