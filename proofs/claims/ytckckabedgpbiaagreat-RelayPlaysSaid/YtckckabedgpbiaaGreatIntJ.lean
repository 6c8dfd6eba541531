/- Slices of numbers that are read; the library's searches in them. -/
import Derived.Test.YtckckabedgpbiaaGreatLstJ
import Derived.Test.YtckckabedgpbiaaGreatJ3
set_option linter.unusedSimpArgs false
set_option linter.unusedVariables false
set_option maxRecDepth 4000
namespace Go.Proofs.YtckckabedgpbiaaGreat
open Go.RowKit
def IntsAt (w : World) (a : Option Addr) (l : List Int) : Prop := ElemsAt w a 1 (l.map fun v => [Value.int .i64 v])
theorem IntsAt.len {w : World} {a : Option Addr} {l : List Int} (h : IntsAt w a l) : l.length ≤ maxLen := by
 have := h.1
 rwa [List.length_map] at this
theorem IntsAt.below {w w' : World} {a : Option Addr} {l : List Int} (h : IntsAt w a l) (hb : Below w.heap.size w w') : IntsAt w' a l := ElemsAt.below h hb
theorem IntsAt.nil (w : World) (a : Option Addr) : IntsAt w a [] := ElemsAt.nil _ _ _
theorem IntsAt.get {w : World} {a : Option Addr} {l : List Int} (h : IntsAt w a l) {k : Nat} (hk : k < l.length) : ∃ b off, a = some ⟨b, off, none⟩ ∧ b < w.heap.size ∧ w.cell? ⟨b, off + k, none⟩ = some (.int .i64 l[k]) := by
 obtain ⟨b, off, e, hb, hr⟩ := h.2 k [Value.int .i64 l[k]] (by rw [List.getElem?_map, List.getElem?_eq_getElem hk]; rfl)
 refine ⟨b, off, e, hb, ?_⟩
 have := hr w rfl 0 _ rfl
 rwa [Nat.mul_one, Nat.add_zero] at this
theorem contains_lt {l : List Int} {v : Int} {k : Nat} (hk : k < l.length) (h : l[k] = v) : l.contains v = true := by
 rw [List.contains_iff_mem, ← h]
 exact List.getElem_mem _
set_option maxRecDepth 20000 in
theorem sIndex_any (a : Option Addr) (cap : Nat) (l : List Int) (v : Int) (w : World) (h : IntsAt w a l) :
  Calls Tryz.prog 104 #[.slice a l.length cap, .int .i64 v] w fun e w' => (∃ n : Int, e = .returned (.int .i64 n) ∧ decide (0 ≤ n) = l.contains v) ∧ w' = w := by
 have hl := h.len
 have hl2 : (l.length : Int) ≤ 9223372036854775807 := by unfold maxLen at hl; omega
 obtain ⟨cv, hcv⟩ : ∃ x, l.contains v = x := ⟨_, rfl⟩
 rw [hcv]
 have HCV := Lib.hid hcv
 clear hcv
 go_enter Tryz.func104, Tryz.ntmps104
 go_wp2_with fail
 go_loopw [8] (fun i wr => ∃ k : Nat, k ≤ l.length ∧ i = .int .i64 k ∧ wr = w ∧ (∀ (j : Nat) (hj : j < l.length), j < k → l[j] ≠ v)) (fun i _ => l.length - (intOf i).toNat)
 case atStart => exact ⟨0, by omega, rfl, rfl, fun j _ hj => by omega⟩
 case round =>
  obtain ⟨k, hk, rfl, rfl, hno⟩ := hrel
  have HN := Lib.hid hno
  clear hno
  by_cases hlt : k < l.length
  ·
   have hltI : (k : Int) < (l.length : Int) := by omega
   obtain ⟨b, off, rfl, hb, hc⟩ := h.get hlt
   obtain ⟨x, hx⟩ : ∃ x, l[k] = x := ⟨_, rfl⟩
   rw [hx] at hc
   have HX := Lib.hid hx
   clear hx h
   by_cases hv : v = x
   ·
    subst hv
    go_wp2_with fail
    go_ret
    refine ⟨⟨(k : Int), rfl, ?_⟩, rfl⟩
    rw [← HCV.out, contains_lt hlt HX.out]
    simp
   ·
    have hv1 : (v == x) = false := by simpa using hv
    have HV := Lib.hid hv
    clear hv
    go_wp2_with fail
    go_roundw
    case rel =>
     refine ⟨k + 1, by omega, rfl, by first | rfl | trivial, fun j hj hjk => ?_⟩
     rcases Nat.lt_or_ge j k with h1 | h1
     ·
      exact HN.out j hj h1
     ·
      obtain rfl : j = k := by omega
      rw [HX.out]
      exact fun e => HV.out e.symm
    case measure => simp [intOf]; omega
  ·
   obtain rfl : k = l.length := by omega
   have hltI : ¬ (l.length : Int) < (l.length : Int) := by omega
   go_wp2_with fail
   go_ret
   refine ⟨⟨-1, rfl, ?_⟩, rfl⟩
   rw [← HCV.out]
   symm
   rw [show decide ((0:Int) ≤ -1) = false from rfl, List.contains_eq_mem, decide_eq_false_iff_not]
   intro hm
   obtain ⟨j, hj, e⟩ := List.getElem_of_mem hm
   exact HN.out j hj hj e
theorem sContains_any (a : Option Addr) (cap : Nat) (l : List Int) (v : Int) (w : World) (h : IntsAt w a l) :
  Calls Tryz.prog 89 #[.slice a l.length cap, .int .i64 v] w fun e w' => e = .returned (.bool (l.contains v)) ∧ w' = w := by
 go_enter Tryz.func89, Tryz.ntmps89
 go_wp2_with fail
 (with_reducible refine (sIndex_any a cap l v _ h).mono ?_)
 rintro e w1 ⟨⟨n, rfl, hn⟩, rfl⟩
 have HN := Lib.hid hn
 clear hn
 go_wp2_with fail
 go_ret
 exact ⟨by rw [← HN.out]; rfl, rfl⟩
theorem sIndexF_any (g : Nat) (lb : Array Value) (eg : ∀ args w, (callFunc g args).run Tryz.prog w = .ok (.enter g args) w) (a : Option Addr) (cap : Nat) (l : List Int) (I : Nat → World → Prop) (J : World → Prop)
  (hI : ∀ k W, I k W → IntsAt W a l)
  (hc : ∀ (k : Nat) (hk : k < l.length) (W : World), I k W → Calls Tryz.prog g (#[.int .i64 l[k]] ++ lb) W fun e W' => (e = .returned (.bool false) ∧ I (k + 1) W') ∨ (e = .returned (.bool true) ∧ J W'))
  (w : World) (h0 : I 0 w) (hl : l.length ≤ maxLen) :
  Calls Tryz.prog 86 #[.slice a l.length cap, .func (.func g) #[] lb] w fun e w' => (e = .returned (.int .i64 (-1)) ∧ I l.length w') ∨ (∃ n : Nat, e = .returned (.int .i64 n) ∧ J w') := by
 have hl2 : (l.length : Int) ≤ 9223372036854775807 := by unfold maxLen at hl; omega
 go_enter Tryz.func86, Tryz.ntmps86
 go_wp2_with fail
 go_loopw [8] (fun i wr => ∃ k : Nat, k ≤ l.length ∧ i = .int .i64 k ∧ I k wr) (fun i _ => l.length - (intOf i).toNat)
 case atStart => exact ⟨0, by omega, rfl, h0⟩
 case round =>
  clear h0
  obtain ⟨k, hk, rfl, hIk⟩ := hrel
  by_cases hlt : k < l.length
  ·
   have hltI : (k : Int) < (l.length : Int) := by omega
   obtain ⟨b, off, rfl, hb, hcell⟩ := (hI k wr hIk).get hlt
   have hcall := hc k hlt wr hIk
   obtain ⟨x, hx⟩ : ∃ x, l[k] = x := ⟨_, rfl⟩
   rw [hx] at hcell hcall
   have HC := Lib.hid hcall
   have HX := Lib.hid hc
   clear hx hcall hc hIk hI
   go_wp2_with fail
   refine HC.out.mono ?_
   rintro e w1 (⟨rfl, h1⟩ | ⟨rfl, h1⟩)
   ·
    clear HC
    go_wp2_with fail
    go_roundw
    case rel => exact ⟨k + 1, by omega, rfl, h1⟩
    case measure => simp [intOf]; omega
   ·
    clear HC
    go_wp2_with fail
    go_ret
    exact .inr ⟨k, rfl, h1⟩
  ·
   obtain rfl : k = l.length := by omega
   have hltI : ¬ (l.length : Int) < (l.length : Int) := by omega
   clear hc hI
   go_wp2_with fail
   go_ret
   exact .inl ⟨rfl, hIk⟩
theorem sContainsF_any (g : Nat) (lb : Array Value) (eg : ∀ args w, (callFunc g args).run Tryz.prog w = .ok (.enter g args) w) (a : Option Addr) (cap : Nat) (l : List Int) (I : Nat → World → Prop) (J : World → Prop)
  (hI : ∀ k W, I k W → IntsAt W a l)
  (hc : ∀ (k : Nat) (hk : k < l.length) (W : World), I k W → Calls Tryz.prog g (#[.int .i64 l[k]] ++ lb) W fun e W' => (e = .returned (.bool false) ∧ I (k + 1) W') ∨ (e = .returned (.bool true) ∧ J W'))
  (w : World) (h0 : I 0 w) (hl : l.length ≤ maxLen) :
  Calls Tryz.prog 51 #[.slice a l.length cap, .func (.func g) #[] lb] w fun e w' => (e = .returned (.bool false) ∧ I l.length w') ∨ (e = .returned (.bool true) ∧ J w') := by
 have H := Lib.hid (sIndexF_any g lb eg a cap l I J hI hc w h0 hl)
 clear hc hI
 go_enter Tryz.func51, Tryz.ntmps51
 go_wp2_with fail
 refine H.out.mono ?_
 rintro e w1 (⟨rfl, h1⟩ | ⟨n, rfl, h1⟩)
 ·
  clear H
  go_wp2_with fail
  go_ret
  exact .inl ⟨rfl, h1⟩
 ·
  clear H
  have hn : (0 : Int) ≤ (n : Int) := by omega
  go_wp2_with fail
  go_ret
  exact .inr ⟨rfl, h1⟩
end Go.Proofs.YtckckabedgpbiaaGreat
