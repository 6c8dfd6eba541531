/- Texts of this proof, merged: Int, Cln. -/
import Derived.Test.YtfopoijikdmiaaaGreatDoorJ7
import Derived.Test.YtfopoijikdmiaaaGreatDoorJ3
set_option linter.unusedSimpArgs false
set_option linter.unusedVariables false
set_option maxHeartbeats 8000000
set_option maxRecDepth 20000
namespace Go.Proofs.YtfopoijikdmiaaaGreatDoor
section
open Go.RowKit
def IntsAt (w : World) (a : Option Addr) (l : List Int) : Prop := ElemsAt w a 1 (l.map fun v => [Value.int .i64 v])
theorem IntsAt.len {w : World} {a : Option Addr} {l : List Int} (h : IntsAt w a l) : l.length ≤ maxLen := by
 have := h.1
 rwa [List.length_map] at this
theorem IntsAt.below {w w' : World} {a : Option Addr} {l : List Int} (h : IntsAt w a l) (hb : Below w.heap.size w w') : IntsAt w' a l := ElemsAt.below h hb
theorem IntsAt.nil (w : World) (a : Option Addr) : IntsAt w a [] := ElemsAt.nil _ _ _
theorem IntsAt.get {w : World} {a : Option Addr} {l : List Int} (h : IntsAt w a l) {k : Nat} (hk : k < l.length) : ∃ b off, a = some ⟨b, off, none⟩ ∧ b < w.heap.size ∧ w.cell? ⟨b, off + k, none⟩ = some (.int .i64 l[k]) := by
 obtain ⟨b, off, e, hb, hr⟩ := h.2 k [Value.int .i64 l[k]] (by rw [List.getElem?_map, List.getElem?_eq_getElem hk]; rfl)
 refine ⟨b, off, e, hb, ?_⟩
 have := hr w rfl 0 _ rfl
 rwa [Nat.mul_one, Nat.add_zero] at this
theorem contains_lt {l : List Int} {v : Int} {k : Nat} (hk : k < l.length) (h : l[k] = v) : l.contains v = true := by
 rw [List.contains_iff_mem, ← h]
 exact List.getElem_mem _
theorem sIndex_any (a : Option Addr) (cap : Nat) (l : List Int) (v : Int) (w : World) (h : IntsAt w a l) :
  Calls Tryz.prog 279 #[.slice a l.length cap, .int .i64 v] w fun e w' => (∃ n : Int, e = .returned (.int .i64 n) ∧ decide (0 ≤ n) = l.contains v) ∧ w' = w := by
 have hl := h.len
 have hl2 : (l.length : Int) ≤ 9223372036854775807 := by unfold maxLen at hl; omega
 obtain ⟨cv, hcv⟩ : ∃ x, l.contains v = x := ⟨_, rfl⟩
 rw [hcv]
 have HCV := h_ hcv
 clear hcv
 go_enter Tryz.func279, Tryz.ntmps279
 go_wp2_with fail
 go_loopw [8] (fun i wr => ∃ k : Nat, k ≤ l.length ∧ i = .int .i64 k ∧ wr = w ∧ (∀ (j : Nat) (hj : j < l.length), j < k → l[j] ≠ v)) (fun i _ => l.length - (intOf i).toNat)
 case atStart => exact ⟨0, by omega, rfl, rfl, fun j _ hj => by omega⟩
 case round =>
  obtain ⟨k, hk, rfl, rfl, hno⟩ := hrel
  have HN := h_ hno
  clear hno
  by_cases hlt : k < l.length
  ·
   have hltI : (k : Int) < (l.length : Int) := by omega
   obtain ⟨b, off, rfl, hb, hc⟩ := h.get hlt
   obtain ⟨x, hx⟩ : ∃ x, l[k] = x := ⟨_, rfl⟩
   rw [hx] at hc
   have HX := h_ hx
   clear hx h
   by_cases hv : v = x
   ·
    subst hv
    go_wp2_with fail
    go_ret
    refine ⟨⟨(k : Int), rfl, ?_⟩, rfl⟩
    rw [← HCV.out, contains_lt hlt HX.out]
    simp
   ·
    have hv1 : (v == x) = false := by simpa using hv
    have HV := h_ hv
    clear hv
    go_wp2_with fail
    go_roundw
    case rel =>
     refine ⟨k + 1, by omega, rfl, by first | rfl | trivial, fun j hj hjk => ?_⟩
     rcases Nat.lt_or_ge j k with h1 | h1
     ·
      exact HN.out j hj h1
     ·
      obtain rfl : j = k := by omega
      rw [HX.out]
      exact fun e => HV.out e.symm
    case measure => simp [intOf]; omega
  ·
   obtain rfl : k = l.length := by omega
   have hltI : ¬ (l.length : Int) < (l.length : Int) := by omega
   go_wp2_with fail
   go_ret
   refine ⟨⟨-1, rfl, ?_⟩, rfl⟩
   rw [← HCV.out]
   symm
   rw [show decide ((0:Int) ≤ -1) = false from rfl, List.contains_eq_mem, decide_eq_false_iff_not]
   intro hm
   obtain ⟨j, hj, e⟩ := List.getElem_of_mem hm
   exact HN.out j hj hj e
theorem sContains_any (a : Option Addr) (cap : Nat) (l : List Int) (v : Int) (w : World) (h : IntsAt w a l) :
  Calls Tryz.prog 239 #[.slice a l.length cap, .int .i64 v] w fun e w' => e = .returned (.bool (l.contains v)) ∧ w' = w := by
 go_enter Tryz.func239, Tryz.ntmps239
 go_wp2_with fail
 (with_reducible refine (sIndex_any a cap l v _ h).mono ?_)
 rintro e w1 ⟨⟨n, rfl, hn⟩, rfl⟩
 have HN := h_ hn
 clear hn
 go_wp2_with fail
 go_ret
 exact ⟨by rw [← HN.out]; rfl, rfl⟩
theorem sIndexF_any (g : Nat) (lb : Array Value) (eg : ∀ args w, (callFunc g args).run Tryz.prog w = .ok (.enter g args) w) (a : Option Addr) (cap : Nat) (l : List Int) (I : Nat → World → Prop) (J : World → Prop)
  (hI : ∀ k W, I k W → IntsAt W a l)
  (hc : ∀ (k : Nat) (hk : k < l.length) (W : World), I k W → Calls Tryz.prog g (#[.int .i64 l[k]] ++ lb) W fun e W' => (e = .returned (.bool false) ∧ I (k + 1) W') ∨ (e = .returned (.bool true) ∧ J W'))
  (w : World) (h0 : I 0 w) (hl : l.length ≤ maxLen) :
  Calls Tryz.prog 216 #[.slice a l.length cap, .func (.func g) #[] lb] w fun e w' => (e = .returned (.int .i64 (-1)) ∧ I l.length w') ∨ (∃ n : Nat, e = .returned (.int .i64 n) ∧ J w') := by
 have hl2 : (l.length : Int) ≤ 9223372036854775807 := by unfold maxLen at hl; omega
 go_enter Tryz.func216, Tryz.ntmps216
 go_wp2_with fail
 go_loopw [8] (fun i wr => ∃ k : Nat, k ≤ l.length ∧ i = .int .i64 k ∧ I k wr) (fun i _ => l.length - (intOf i).toNat)
 case atStart => exact ⟨0, by omega, rfl, h0⟩
 case round =>
  clear h0
  obtain ⟨k, hk, rfl, hIk⟩ := hrel
  by_cases hlt : k < l.length
  ·
   have hltI : (k : Int) < (l.length : Int) := by omega
   obtain ⟨b, off, rfl, hb, hcell⟩ := (hI k wr hIk).get hlt
   have hcall := hc k hlt wr hIk
   obtain ⟨x, hx⟩ : ∃ x, l[k] = x := ⟨_, rfl⟩
   rw [hx] at hcell hcall
   have HC := h_ hcall
   have HX := h_ hc
   clear hx hcall hc hIk hI
   go_wp2_with fail
   refine HC.out.mono ?_
   rintro e w1 (⟨rfl, h1⟩ | ⟨rfl, h1⟩)
   ·
    clear HC
    go_wp2_with fail
    go_roundw
    case rel => exact ⟨k + 1, by omega, rfl, h1⟩
    case measure => simp [intOf]; omega
   ·
    clear HC
    go_wp2_with fail
    go_ret
    exact .inr ⟨k, rfl, h1⟩
  ·
   obtain rfl : k = l.length := by omega
   have hltI : ¬ (l.length : Int) < (l.length : Int) := by omega
   clear hc hI
   go_wp2_with fail
   go_ret
   exact .inl ⟨rfl, hIk⟩
theorem sContainsF_any (g : Nat) (lb : Array Value) (eg : ∀ args w, (callFunc g args).run Tryz.prog w = .ok (.enter g args) w) (a : Option Addr) (cap : Nat) (l : List Int) (I : Nat → World → Prop) (J : World → Prop)
  (hI : ∀ k W, I k W → IntsAt W a l)
  (hc : ∀ (k : Nat) (hk : k < l.length) (W : World), I k W → Calls Tryz.prog g (#[.int .i64 l[k]] ++ lb) W fun e W' => (e = .returned (.bool false) ∧ I (k + 1) W') ∨ (e = .returned (.bool true) ∧ J W'))
  (w : World) (h0 : I 0 w) (hl : l.length ≤ maxLen) :
  Calls Tryz.prog 159 #[.slice a l.length cap, .func (.func g) #[] lb] w fun e w' => (e = .returned (.bool false) ∧ I l.length w') ∨ (e = .returned (.bool true) ∧ J w') := by
 have H := h_ (sIndexF_any g lb eg a cap l I J hI hc w h0 hl)
 clear hc hI
 go_enter Tryz.func159, Tryz.ntmps159
 go_wp2_with fail
 refine H.out.mono ?_
 rintro e w1 (⟨rfl, h1⟩ | ⟨n, rfl, h1⟩)
 ·
  clear H
  go_wp2_with fail
  go_ret
  exact .inl ⟨rfl, h1⟩
 ·
  clear H
  have hn : (0 : Int) ≤ (n : Int) := by omega
  go_wp2_with fail
  go_ret
  exact .inr ⟨rfl, h1⟩
end
section
open Go.RowKit
theorem intsInfo : (Tryz.prog.info? 3).map (fun i => (i.zero, i.size, i.bytes)) = some (some (.int .i64 0), 1, 8) := by kernel_rfl
theorem flat_ints (l : List Int) : (l.map fun v => [Value.int .i64 v]).flatten = l.map (Value.int .i64) := by
 induction l with
 | nil => rfl
 | cons v l ih => rw [List.map_cons, List.flatten_cons, ih]; rfl
theorem OwnL.ints {w : World} {B : Nat} {v : Value} {l : List Int} {n : Nat} (hn : n = l.length) (h : w.ownsRow B 3 1 v n (l.map (Value.int .i64))) : OwnL w B 3 1 v (l.map fun v => [Value.int .i64 v]) :=
 ⟨by intro x hx; obtain ⟨y, _, rfl⟩ := List.mem_map.1 hx; rfl, by rw [flat_ints, List.length_map, ← hn]; exact h⟩
theorem eql_nil_int (w : World) (a : Option Addr) (n c : Nat) : (binOp .eql 55 (.slice a n c) (.slice none 0 0)).run Tryz.prog w = .ok (.bool a.isNone) w := by
 have ht := Tryz.underlying55
 have h : ∀ d : Nat, (Op.equalIn (d + 1) 55 (.slice a n c) (.slice none 0 0)).run Tryz.prog w = .ok a.isNone w := fun d => by
  cases a <;> simp [Op.equalIn, run_underlying ht]
 simp only [binOp]
 simp [Op.equal, Op.maxDepth, h 9999]
theorem sClone_any (a : Option Addr) (cap : Nat) (l : List Int) (w : World) (h : IntsAt w a l) (hs : l.length ≤ 1000) :
  Calls Tryz.prog 58 #[.slice a l.length cap] w fun e w' => (∃ v, e = .returned v ∧ OwnL w' w.heap.size 3 1 v (l.map fun v => [Value.int .i64 v])) ∧ Below w.heap.size w w' := by
 have hlI : (l.length : Int) ≤ 1000 := by omega
 cases a with
 | none =>
  have hl0 : l = [] := by
   cases l with
   | nil => rfl
   | cons x l =>
    obtain ⟨b, off, e, _⟩ := h.get (k := 0) (by simp)
    cases e
  subst hl0
  have hq := eql_nil_int w none 0 cap
  go_enter Tryz.func58, Tryz.ntmps58
  go_wp2_with fail
  go_ret
  exact ⟨⟨_, rfl, OwnL.nil _ _ _ _⟩, Below.refl _ _⟩
 | some ad =>
  have H := h_ h
  clear h
  go_enter Tryz.func58, Tryz.ntmps58
  obtain ⟨i0, hi, hz0, hz1, hz2⟩ := info_parts intsInfo
  have hq := eql_nil_int w (some ad) l.length cap
  go_wp2_with (at_builtin; refine wpList_append_own _ rfl _ _ 55 rfl w.heap.size 3 i0 (.int .i64 0) 1 8 Tryz.underlying55 hi hz0 hz1 hz2 rfl (by decide) _ _ _ rfl (World.ownsRow_made w #[] 0 (Nat.le_refl _) (Nat.zero_le _) (by simp)) ad l.length cap (l.map (Value.int .i64)) rfl ?qc1 ?qc2 ?qc3 ?qc4 ?qc5 ?qc6 ?_)
  case qc1 => simp
  case qc2 =>
   intro j u hj
   have hjl : j < l.length := by have := (List.getElem?_eq_some_iff.1 hj).1; simpa using this
   obtain ⟨b, off, e, hb, hc⟩ := H.out.get hjl
   cases e
   rw [addr_add, Below.cell (Below.alloc (Below.refl w.heap.size w) (Nat.le_refl _) _) (p := ⟨b, off + j, none⟩) hb, hc, ← hj, List.getElem?_map, List.getElem?_eq_getElem hjl]
   rfl
  case qc3 => intro u hu; obtain ⟨y, _, rfl⟩ := List.mem_map.1 hu; rfl
  case qc4 => unfold maxLen; omega
  case qc5 => omega
  case qc6 => simp
  intro v' w1 hown hgrow hnil
  clear hi hz0 hz1 hz2 hnil
  have hb : Below w.heap.size w w1 := ((Below.refl _ w).alloc (Nat.le_refl _) _).grown hgrow (by simp) (by intro k hk; simp [Value.ownBlock] at hk; omega)
  (try rw [Nat.zero_add] at hown)
  (try rw [List.nil_append] at hown)
  have HO := h_ hown
  clear hown hgrow
  go_wp2_with fail
  go_ret
  exact ⟨⟨_, rfl, OwnL.ints rfl HO.out⟩, hb⟩
end
end Go.Proofs.YtfopoijikdmiaaaGreatDoor
