/- Texts of this proof, merged: HusL, HusT, HusK. -/
import Derived.Test.YtfopoijikdmiaaaGreatDoorJ11
import Derived.Test.YtfopoijikdmiaaaGreatDoorJ6
import Derived.Test.YtfopoijikdmiaaaGreatDoorJ16
set_option linter.unusedSimpArgs false
set_option linter.unusedVariables false
set_option maxHeartbeats 8000000
set_option maxRecDepth 20000
namespace Go.Proofs.YtfopoijikdmiaaaGreatDoor
section
open Go.RowKit
section
variable (dst src : Vector UInt8 6) (ty : Int) (body : List UInt8) (ip : List UInt8) (mac : Vector UInt8 6)
def AnnC (ok : Bool) : Prop := ∀ w, Calls Tryz.prog 189 #[.agg (frameV dst src ty body).toArray] w fun e w' => e = .returned (.tuple #[.agg (Value.string ⟨ip.toArray⟩ :: u8v mac).toArray, .bool ok]) ∧ Below w.heap.size w w'
variable (w : World) (T : Option Addr) (v : Int)
theorem hLearn_no (HA : AnnC dst src ty body ip mac false) :
  Calls Tryz.prog 131 #[.pointer T, .int .i64 v, .agg (frameV dst src ty body).toArray] w fun e w' => e = .returned (.bool false) ∧ Below w.heap.size w w' := by
 unfold AnnC at HA
 unfold frameV at *
 have K := h_ HA
 clear HA
 go_enter Tryz.func131, Tryz.ntmps131
 go_wp2_with fail
 (with_reducible refine (K.out _).mono ?_)
 rintro e w1 ⟨rfl, b1⟩
 have z1 := b1.size
 simp at z1
 have B1 : Below w.heap.size w w1 := Below.trans blw_ (b1.mono (by simp))
 clear b1
 cases T <;>
 ·
  go_wp2_with fail
  go_ret
  exact ⟨rfl, Below.alloc B1 (by omega) _⟩
theorem hLearn_full {A M : Nat} {time : Int} {m : List HB} (h : HushT w A M time m) (HA : AnnC dst src ty body ip mac true) (h1 : findH v ip m = none) (h2 : 1024 ≤ m.length) :
  Calls Tryz.prog 131 #[.pointer (some ⟨A, 0, none⟩), .int .i64 v, .agg (frameV dst src ty body).toArray] w fun e w' => e = .returned (.bool false) ∧ Below w.heap.size w w' := by
 unfold AnnC at HA
 unfold frameV at *
 have K := h_ HA
 clear HA
 have hr := h.row
 have hlt := h.lt
 have hMlt := h.ok.lt
 obtain ⟨age, hl⟩ := hLook v ip m
 have e1 : foundH v ip m = (Vector.replicate 6 0, false) := by unfold foundH; rw [h1]
 rw [e1] at hl
 have HL := h_ hl
 clear hl e1 h1
 go_enter Tryz.func131, Tryz.ntmps131
 go_wp2_with fail
 (with_reducible refine (K.out _).mono ?_)
 rintro e w1 ⟨rfl, b1⟩
 have z1 := b1.size
 simp at z1
 have B1 : Below w.heap.size w w1 := Below.trans blw_ (b1.mono (by simp))
 have hM : mapOk w1 M := mapOk_below B1 hMlt h.ok
 have hLL : mapL w1 M = encH m := by rw [mapL_below B1 hMlt, h.map]
 replace hr := (row_below B1 hlt).trans hr
 clear b1 h
 obtain ⟨w2, hw2⟩ : ∃ x, (w1.alloc (.cells (Value.string ⟨ip.toArray⟩ :: u8v mac).toArray 353)).alloc (.cells #[Value.int .i64 v, Value.string ⟨ip.toArray⟩] 279) = x := ⟨_, rfl⟩
 have rB : row w2 w1.heap.size = (Value.string ⟨ip.toArray⟩ :: u8v mac).toArray := by rw [← hw2]; simp [go_sem]
 have rK : row w2 (w1.heap.size + 1) = #[Value.int .i64 v, Value.string ⟨ip.toArray⟩] := by rw [← hw2]; simp [go_sem]
 have z2 : w2.heap.size = w1.heap.size + 2 := by rw [← hw2]; simp
 have B2 : Below w.heap.size w w2 := by rw [← hw2]; exact Below.alloc (Below.alloc B1 (by omega) _) (by simp; omega) _
 have b12 : Below w1.heap.size w1 w2 := by rw [← hw2]; exact Below.alloc (Below.alloc (Below.refl _ _) (by omega) _) (by simp) _
 replace hM := mapOk_below b12 (by omega) hM
 replace hLL := (mapL_below b12 (by omega)).trans hLL
 replace hr := (row_below b12 (by omega)).trans hr
 clear b12
 go_wp2_with fail
 refine rgM_ [(A, #[Value.int .i64 time, Value.map (some M)]), (w1.heap.size, (Value.string ⟨ip.toArray⟩ :: u8v mac).toArray), (w1.heap.size + 1, #[Value.int .i64 v, Value.string ⟨ip.toArray⟩])] M (encH m) (hM) (hLL) (fun hS => ?_)
 refine mp 0 hS ?_
 refine mp 1 hS ?_
 refine mp 2 hS ?_
 refine mp 3 hS ?_
 refine mp 4 hS ?_
 refine wpAnyR_take (i := 5) (v := ?_) opt_ kr_ kr_ kr_ (by first | exact fun _ _ _ h => h | exact fun _ _ _ h => by cases h.1) (MapS.grow _ _ _) (Or.inl ⟨by rfl, ?_⟩) hS ?_
 rotate_left
 ·
  intro w' hS'
  obtain ⟨hS', hM', hL'⟩ := hS'
  have hrun := HL.out _ _ hM' hL'
  simp only [Rws] at hS'
  go_simp
  refine ⟨?_, Below.refl _ _⟩
  rfl
 (try simp only [Act.put, List.setIfInBounds_toArray, List.set_cons_zero, List.set_cons_succ])
 refine mp 6 hS ?_
 refine mp 7 hS ?_
 refine mp 8 hS ?_
 refine wpAnyM_var (i := 9) (k := 10) (zi := (zeros 6 (Value.int .u8 0) ++ [Value.int .i64 0]).toArray) (cA := (u8v (Vector.replicate 6 0) ++ [Value.int .i64 age]).toArray) opt_ opt_ ⟨rfl, rfl, fun a w => by go_simp; (refine ⟨?_, ?_⟩ <;> rfl)⟩ kr_ kr_ rfl rfl (by simp [*]) (by simp) (by simp; (try omega)) (fun A w1 hr => by
  simp only [Act.put, List.setIfInBounds_toArray, List.set_cons_zero, List.set_cons_succ, ptr]
  go_simp
  try rfl) hS (fun X w3 gX zX b3 rX hS => ?_)
 (try simp only [Act.put, List.setIfInBounds_toArray, List.set_cons_zero, List.set_cons_succ])
 replace gX : (w2).heap.size ≤ X := gX
 replace b3 : Below (w2).heap.size w2 w3 := Below.trans (Below.drew (Below.refl _ _)) b3
 have zw3 := (b3).size
 simp only [ptr]
 refine mp 11 hS ?_
 refine wpAnyR_done kr_ (fun w4 b4 => ?_) _
 have z4 := b4.size
 have b24 := b3.trans (b4.mono (by omega))
 have hM4 := mapOk_below b24 (by omega) hM
 have hL4 := (mapL_below b24 (by omega)).trans hLL
 have hr4 := (row_below b24 (by omega)).trans hr
 have B4 := B2.trans (b24.mono (by omega))
 have hlen := run_len (ty := 3) map_hush hM4
 rw [hL4, encH, List.length_map] at hlen
 have h2' : (1024 : Int) ≤ (m.length : Int) := by omega
 clear hL4 hLL hM hr b24 b3 b4 hS
 go_wp2_with fail
 go_ret
 exact ⟨rfl, B4⟩
theorem hLearn_kept {A M : Nat} {time : Int} {m : List HB} (h : HushT w A M time m) (hAM : A ≠ M) (HA : AnnC dst src ty body ip mac true) (h1 : findH v ip m ≠ none ∨ m.length < 1024) :
  Calls Tryz.prog 131 #[.pointer (some ⟨A, 0, none⟩), .int .i64 v, .agg (frameV dst src ty body).toArray] w fun e w' => e = .returned (.bool true) ∧ BelowBut w.heap.size M w w' ∧ HushT w' A M time (putH ⟨v, ip, mac, 0⟩ m) := by
 unfold AnnC at HA
 unfold frameV at *
 have K := h_ HA
 clear HA
 have hr := h.row
 have hlt := h.lt
 have hMlt := h.ok.lt
 obtain ⟨age, hl⟩ := hLook v ip m
 obtain ⟨fm, hfm⟩ : ∃ x, (foundH v ip m).1 = x := ⟨_, rfl⟩
 obtain ⟨fh, hfh⟩ : ∃ x, (foundH v ip m).2 = x := ⟨_, rfl⟩
 have h1' : fh = true ∨ (fh = false ∧ m.length < 1024) := by
  rw [← hfh]
  unfold foundH
  cases hf : findH v ip m with
  | some b => simp
  | none => rw [hf] at h1; simpa using h1
 rw [hfm, hfh] at hl
 have HL := h_ hl
 clear hl h1 hfm hfh
 go_enter Tryz.func131, Tryz.ntmps131
 go_wp2_with fail
 (with_reducible refine (K.out _).mono ?_)
 rintro e w1 ⟨rfl, b1⟩
 have z1 := b1.size
 simp at z1
 have B1 : Below w.heap.size w w1 := Below.trans blw_ (b1.mono (by simp))
 have hM : mapOk w1 M := mapOk_below B1 hMlt h.ok
 have hLL : mapL w1 M = encH m := by rw [mapL_below B1 hMlt, h.map]
 replace hr := (row_below B1 hlt).trans hr
 clear b1 h
 obtain ⟨w2, hw2⟩ : ∃ x, (w1.alloc (.cells (Value.string ⟨ip.toArray⟩ :: u8v mac).toArray 353)).alloc (.cells #[Value.int .i64 v, Value.string ⟨ip.toArray⟩] 279) = x := ⟨_, rfl⟩
 have rB : row w2 w1.heap.size = (Value.string ⟨ip.toArray⟩ :: u8v mac).toArray := by rw [← hw2]; simp [go_sem]
 have rK : row w2 (w1.heap.size + 1) = #[Value.int .i64 v, Value.string ⟨ip.toArray⟩] := by rw [← hw2]; simp [go_sem]
 have z2 : w2.heap.size = w1.heap.size + 2 := by rw [← hw2]; simp
 have B2 : Below w.heap.size w w2 := by rw [← hw2]; exact Below.alloc (Below.alloc B1 (by omega) _) (by simp; omega) _
 have b12 : Below w1.heap.size w1 w2 := by rw [← hw2]; exact Below.alloc (Below.alloc (Below.refl _ _) (by omega) _) (by simp) _
 replace hM := mapOk_below b12 (by omega) hM
 replace hLL := (mapL_below b12 (by omega)).trans hLL
 replace hr := (row_below b12 (by omega)).trans hr
 clear b12
 go_wp2_with fail
 refine rgM_ [(A, #[Value.int .i64 time, Value.map (some M)]), (w1.heap.size, (Value.string ⟨ip.toArray⟩ :: u8v mac).toArray), (w1.heap.size + 1, #[Value.int .i64 v, Value.string ⟨ip.toArray⟩])] M (encH m) (hM) (hLL) (fun hS => ?_)
 refine mp 0 hS ?_
 refine mp 1 hS ?_
 refine mp 2 hS ?_
 refine mp 3 hS ?_
 refine mp 4 hS ?_
 refine wpAnyR_take (i := 5) (v := ?_) opt_ kr_ kr_ kr_ (by first | exact fun _ _ _ h => h | exact fun _ _ _ h => by cases h.1) (MapS.grow _ _ _) (Or.inl ⟨by rfl, ?_⟩) hS ?_
 rotate_left
 ·
  intro w' hS'
  obtain ⟨hS', hM', hL'⟩ := hS'
  have hrun := HL.out _ _ hM' hL'
  simp only [Rws] at hS'
  go_simp
  refine ⟨?_, Below.refl _ _⟩
  rfl
 (try simp only [Act.put, List.setIfInBounds_toArray, List.set_cons_zero, List.set_cons_succ])
 refine mp 6 hS ?_
 refine mp 7 hS ?_
 refine mp 8 hS ?_
 refine wpAnyM_var (i := 9) (k := 10) (zi := (zeros 6 (Value.int .u8 0) ++ [Value.int .i64 0]).toArray) (cA := (u8v fm ++ [Value.int .i64 age]).toArray) opt_ opt_ ⟨rfl, rfl, fun a w => by go_simp; (refine ⟨?_, ?_⟩ <;> rfl)⟩ kr_ kr_ rfl rfl (by simp [*]) (by simp) (by simp; (try omega)) (fun A w1 hr => by
  simp only [Act.put, List.setIfInBounds_toArray, List.set_cons_zero, List.set_cons_succ, ptr]
  go_simp
  try rfl) hS (fun X w3 gX zX b3 rX hS => ?_)
 (try simp only [Act.put, List.setIfInBounds_toArray, List.set_cons_zero, List.set_cons_succ])
 replace gX : (w2).heap.size ≤ X := gX
 replace b3 : Below (w2).heap.size w2 w3 := Below.trans (Below.drew (Below.refl _ _)) b3
 have zw3 := (b3).size
 simp only [ptr]
 refine mp 11 hS ?_
 refine wpAnyR_done kr_ (fun w4 b4 => ?_) _
 have z4 := b4.size
 have b24 := b3.trans (b4.mono (by omega))
 have hM4 := mapOk_below b24 (by omega) hM
 have hL4 := (mapL_below b24 (by omega)).trans hLL
 have hr4 := (row_below b24 (by omega)).trans hr
 have rB4 := (row_below b24 (by omega)).trans rB
 have rK4 := (row_below b24 (by omega)).trans rK
 have B4 := B2.trans (b24.mono (by omega))
 have hlen := run_len (ty := 3) map_hush hM4
 rw [hL4, encH, List.length_map] at hlen
 have HL4 := h_ hL4
 clear hL4 hLL hM hr b24 b3 b4 hS hw2
 rcases h1' with rfl | ⟨rfl, h2⟩
 ·
  go_wp2_with fail
  refine rgKM_ 8 [(A, #[Value.int .i64 time, Value.map (some M)]), (w1.heap.size, (Value.string ⟨ip.toArray⟩ :: u8v mac).toArray), (w1.heap.size + 1, #[Value.int .i64 v, Value.string ⟨ip.toArray⟩])] M (encH m) (hM4) (HL4.out) (fun hS => ?_)
  refine kmp 0 hS ?_
  refine kmp 1 hS ?_
  refine kmp 2 hS ?_
  refine kmp 3 hS ?_
  refine kmp 4 hS ?_
  refine kmp 5 hS ?_
  refine kmp 6 hS ?_
  refine kmp 7 hS ?_
  refine wpAnyK_store (k := 8) opt_ rfl rfl kr_ (fun w5 b5 => ?_)
  replace b5 := below_step (Below.drew (Below.refl _ _)) b5
  have z5 := b5.size
  have hM5 := mapOk_below b5 (by omega) hM4
  have hL5 := (mapL_below b5 (by omega)).trans HL4.out
  obtain ⟨w6, hrun, hT, hM6, hL6, _⟩ := run_put key_hush map_hush hM5 (okH v ip) (by rw [hL5]; exact okH_all m) (hvV mac 0)
  rw [hL5, show putV sameA (hkV v ip) (hvV mac 0) (encH m) = encH (putH ⟨v, ip, mac, 0⟩ m) from putH_enc ⟨v, ip, mac, 0⟩ m] at hL6
  have HL6 := h_ hL6
  clear hL5 hL6
  unfold hkV hvV at hrun
  refine ⟨w6, ?_, trivial, fun hS => ?_⟩
  ·
   go_simp
   try exact ⟨_, _, rfl, rfl⟩
  ·
   refine wpAnyR_done kr_ (fun w7 b7 => ?_) _
   have z7 := b7.size
   have z6 := hT.size
   have b45 := BelowBut.of (S := M) (B4.trans (b5.mono (by omega)))
   have hbb : BelowBut w.heap.size M w w7 := ⟨by rw [b7.os, hT.os, b45.os], by rw [b7.tape, hT.tape, b45.tape], by rw [b7.output, hT.output, b45.output], by have := b45.size; omega, fun k hk hn => by rw [b7.block k (by omega), hT.block k hn, b45.block k hk hn]⟩
   have hr7 : row w7 A = #[Value.int .i64 time, Value.map (some M)] := by rw [row_below b7 (by omega), hT.row hAM, row_below b5 (by omega), hr4]
   have hM7 := mapOk_below b7 (by omega) hM6
   have hL7 := (mapL_below b7 (by omega)).trans HL6.out
   have HL7 := h_ hL7
   clear hL7 hrun b7 b5
   go_wp2_with fail
   go_ret
   exact ⟨rfl, hbb, hr7, hM7, HL7.out⟩
 ·
  have h2' : ¬ (1024 : Int) ≤ (m.length : Int) := by omega
  go_wp2_with fail
  refine rgKM_ 8 [(A, #[Value.int .i64 time, Value.map (some M)]), (w1.heap.size, (Value.string ⟨ip.toArray⟩ :: u8v mac).toArray), (w1.heap.size + 1, #[Value.int .i64 v, Value.string ⟨ip.toArray⟩])] M (encH m) (hM4) (HL4.out) (fun hS => ?_)
  refine kmp 0 hS ?_
  refine kmp 1 hS ?_
  refine kmp 2 hS ?_
  refine kmp 3 hS ?_
  refine kmp 4 hS ?_
  refine kmp 5 hS ?_
  refine kmp 6 hS ?_
  refine kmp 7 hS ?_
  refine wpAnyK_store (k := 8) opt_ rfl rfl kr_ (fun w5 b5 => ?_)
  replace b5 := below_step (Below.drew (Below.refl _ _)) b5
  have z5 := b5.size
  have hM5 := mapOk_below b5 (by omega) hM4
  have hL5 := (mapL_below b5 (by omega)).trans HL4.out
  obtain ⟨w6, hrun, hT, hM6, hL6, _⟩ := run_put key_hush map_hush hM5 (okH v ip) (by rw [hL5]; exact okH_all m) (hvV mac 0)
  rw [hL5, show putV sameA (hkV v ip) (hvV mac 0) (encH m) = encH (putH ⟨v, ip, mac, 0⟩ m) from putH_enc ⟨v, ip, mac, 0⟩ m] at hL6
  have HL6 := h_ hL6
  clear hL5 hL6
  unfold hkV hvV at hrun
  refine ⟨w6, ?_, trivial, fun hS => ?_⟩
  ·
   go_simp
   try exact ⟨_, _, rfl, rfl⟩
  ·
   refine wpAnyR_done kr_ (fun w7 b7 => ?_) _
   have z7 := b7.size
   have z6 := hT.size
   have b45 := BelowBut.of (S := M) (B4.trans (b5.mono (by omega)))
   have hbb : BelowBut w.heap.size M w w7 := ⟨by rw [b7.os, hT.os, b45.os], by rw [b7.tape, hT.tape, b45.tape], by rw [b7.output, hT.output, b45.output], by have := b45.size; omega, fun k hk hn => by rw [b7.block k (by omega), hT.block k hn, b45.block k hk hn]⟩
   have hr7 : row w7 A = #[Value.int .i64 time, Value.map (some M)] := by rw [row_below b7 (by omega), hT.row hAM, row_below b5 (by omega), hr4]
   have hM7 := mapOk_below b7 (by omega) hM6
   have hL7 := (mapL_below b7 (by omega)).trans HL6.out
   have HL7 := h_ hL7
   clear hL7 hrun b7 b5
   go_wp2_with fail
   go_ret
   exact ⟨rfl, hbb, hr7, hM7, HL7.out⟩
end
end
section
open Go.RowKit
def DistH (m : List HB) : Prop := m.Pairwise fun a b => a.is b.v b.ip = false
end
section
set_option maxRecDepth 20000
end
end Go.Proofs.YtfopoijikdmiaaaGreatDoor
