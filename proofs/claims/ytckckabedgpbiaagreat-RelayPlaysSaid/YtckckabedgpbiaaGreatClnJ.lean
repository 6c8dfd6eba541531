/- A copy of a slice of numbers. -/
import Derived.Test.YtckckabedgpbiaaGreatIntJ
import Derived.Test.YtckckabedgpbiaaGreatOffJ
set_option linter.unusedSimpArgs false
set_option linter.unusedVariables false
set_option maxRecDepth 4000
namespace Go.Proofs.YtckckabedgpbiaaGreat
open Go.RowKit
theorem intsInfo : (Tryz.prog.info? 3).map (fun i => (i.zero, i.size, i.bytes)) = some (some (.int .i64 0), 1, 8) := by kernel_rfl
theorem flat_ints (l : List Int) : (l.map fun v => [Value.int .i64 v]).flatten = l.map (Value.int .i64) := by
 induction l with
 | nil => rfl
 | cons v l ih => rw [List.map_cons, List.flatten_cons, ih]; rfl
theorem OwnL.ints {w : World} {B : Nat} {v : Value} {l : List Int} {n : Nat} (hn : n = l.length) (h : w.ownsRow B 3 1 v n (l.map (Value.int .i64))) : OwnL w B 3 1 v (l.map fun v => [Value.int .i64 v]) :=
 ⟨by intro x hx; obtain ⟨y, _, rfl⟩ := List.mem_map.1 hx; rfl, by rw [flat_ints, List.length_map, ← hn]; exact h⟩
theorem eql_nil_int (w : World) (a : Option Addr) (n c : Nat) : (binOp .eql 57 (.slice a n c) (.slice none 0 0)).run Tryz.prog w = .ok (.bool a.isNone) w := by
 have ht := Tryz.underlying57
 have h : ∀ d : Nat, (Op.equalIn (d + 1) 57 (.slice a n c) (.slice none 0 0)).run Tryz.prog w = .ok a.isNone w := fun d => by
  cases a <;> simp [Op.equalIn, run_underlying ht]
 simp only [binOp]
 simp [Op.equal, Op.maxDepth, h 9999]
set_option maxRecDepth 20000 in
theorem sClone_any (a : Option Addr) (cap : Nat) (l : List Int) (w : World) (h : IntsAt w a l) (hs : l.length ≤ 1000) :
  Calls Tryz.prog 21 #[.slice a l.length cap] w fun e w' => (∃ v, e = .returned v ∧ OwnL w' w.heap.size 3 1 v (l.map fun v => [Value.int .i64 v])) ∧ Below w.heap.size w w' := by
 have hlI : (l.length : Int) ≤ 1000 := by omega
 cases a with
 | none =>
  have hl0 : l = [] := by
   cases l with
   | nil => rfl
   | cons x l =>
    obtain ⟨b, off, e, _⟩ := h.get (k := 0) (by simp)
    cases e
  subst hl0
  have hq := eql_nil_int w none 0 cap
  go_enter Tryz.func21, Tryz.ntmps21
  go_wp2_with fail
  go_ret
  exact ⟨⟨_, rfl, OwnL.nil _ _ _ _⟩, Below.refl _ _⟩
 | some ad =>
  have H := Lib.hid h
  clear h
  go_enter Tryz.func21, Tryz.ntmps21
  obtain ⟨i0, hi, hz0, hz1, hz2⟩ := info_parts intsInfo
  have hq := eql_nil_int w (some ad) l.length cap
  go_wp2_with (at_builtin; refine wpList_append_own _ rfl _ _ 57 rfl w.heap.size 3 i0 (.int .i64 0) 1 8 Tryz.underlying57 hi hz0 hz1 hz2 rfl (by decide) _ _ _ rfl (World.ownsRow_made w #[] 0 (Nat.le_refl _) (Nat.zero_le _) (by simp)) ad l.length cap (l.map (Value.int .i64)) rfl ?qc1 ?qc2 ?qc3 ?qc4 ?qc5 ?qc6 ?_)
  case qc1 => simp
  case qc2 =>
   intro j u hj
   have hjl : j < l.length := by have := (List.getElem?_eq_some_iff.1 hj).1; simpa using this
   obtain ⟨b, off, e, hb, hc⟩ := H.out.get hjl
   cases e
   rw [addr_add, Below.cell (Below.alloc (Below.refl w.heap.size w) (Nat.le_refl _) _) (p := ⟨b, off + j, none⟩) hb, hc, ← hj, List.getElem?_map, List.getElem?_eq_getElem hjl]
   rfl
  case qc3 => intro u hu; obtain ⟨y, _, rfl⟩ := List.mem_map.1 hu; rfl
  case qc4 => unfold maxLen; omega
  case qc5 => omega
  case qc6 => simp
  intro v' w1 hown hgrow hnil
  clear hi hz0 hz1 hz2 hnil
  have hb : Below w.heap.size w w1 := ((Below.refl _ w).alloc (Nat.le_refl _) _).grown hgrow (by simp) (by intro k hk; simp [Value.ownBlock] at hk; omega)
  (try rw [Nat.zero_add] at hown)
  (try rw [List.nil_append] at hown)
  have HO := Lib.hid hown
  clear hown hgrow
  go_wp2_with fail
  go_ret
  exact ⟨⟨_, rfl, OwnL.ints rfl HO.out⟩, hb⟩
end Go.Proofs.YtckckabedgpbiaaGreat
