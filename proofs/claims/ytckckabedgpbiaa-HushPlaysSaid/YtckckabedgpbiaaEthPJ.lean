/- Contracts of package ether: parsing. -/
import Derived.Test.YtckckabedgpbiaaJ20
import Derived.Test.YtckckabedgpbiaaEthDJ
set_option linter.unusedSimpArgs false
set_option linter.unusedVariables false
set_option maxRecDepth 4000
namespace Go.Proofs.Ytckckabedgpbiaa
open Go.RowKit
theorem eth_leaves_panic (tmps : Array Value) (X E : Nat) (n m : Int) (w w1 : World) (v : Value) (h2 : tmps.getD 2 undef = .pointer (some ⟨X, 0, none⟩)) (h3 : tmps.getD 3 undef = .pointer (some ⟨E, 0, none⟩))
  (hX : (row w1 X).size = 16) (hE : row w1 E = #[.int .i64 m]) (hXE : X ≠ E) (hBX : w.heap.size ≤ X) (hBE : w.heap.size ≤ E) (hb : Below w.heap.size w w1) (hv : v = .tuple #[.agg zeroEth.toArray, .int .i64 n]) :
  Leaves Try.prog Try.f41 tmps (fun e w' => e = .returned v ∧ Below w.heap.size w w') [{ target := .fn (.func 70) #[.pointer (some ⟨X, 0, none⟩), .pointer (some ⟨E, 0, none⟩)], args := #[] }] (.panicking (errP n)) w1 := by
 refine leaves_cons (f := 70) (args := #[.pointer (some ⟨X, 0, none⟩), .pointer (some ⟨E, 0, none⟩)]) (by simp) (by simp [go_sem]) ?_
 refine (ethCatch_panic X E n m w1 w.heap.size hX hE hXE hBX hBE).mono ?_
 rintro e u' w'' ⟨rfl, rfl, rX, rE, hb2⟩
 refine ⟨_, results_2 (r := .cell 2 78) (s := .cell 3 26) rfl (resOk_row h2 ?_) (resOk_one (d := .int .i64) (v := .int .i64 n) Try.underlying26 rfl h3 ?_), ?_, hb.trans hb2⟩
 ·
  rw [rX]
  rfl
 ·
  simp [go_sem, rE]
 ·
  rw [rX, hv]
theorem eth_leaves_ok (tmps : Array Value) (X E : Nat) (cs : List Value) (w w1 : World) (v : Value) (h2 : tmps.getD 2 undef = .pointer (some ⟨X, 0, none⟩)) (h3 : tmps.getD 3 undef = .pointer (some ⟨E, 0, none⟩))
  (hX : row w1 X = cs.toArray) (hc : cs.length = 16) (hE : row w1 E = #[.int .i64 0]) (hb : Below w.heap.size w w1) (hv : v = .tuple #[.agg cs.toArray, .int .i64 0]) :
  Leaves Try.prog Try.f41 tmps (fun e w' => e = .returned v ∧ Below w.heap.size w w') [{ target := .fn (.func 70) #[.pointer (some ⟨X, 0, none⟩), .pointer (some ⟨E, 0, none⟩)], args := #[] }] .returning w1 := by
 refine leaves_cons (f := 70) (args := #[.pointer (some ⟨X, 0, none⟩), .pointer (some ⟨E, 0, none⟩)]) (by simp) (by simp [go_sem]) ?_
 refine (ethCatch_idle X E w1).mono ?_
 rintro e u' w'' ⟨rfl, rfl, rfl⟩
 refine ⟨_, results_2 (r := .cell 2 78) (s := .cell 3 26) rfl (resOk_row h2 ?_) (resOk_one (d := .int .i64) (v := .int .i64 0) Try.underlying26 rfl h3 ?_), ?_, hb⟩
 ·
  rw [hX]
  simpa using hc
 ·
  simp [go_sem, hE]
 ·
  rw [hX, hv]
structure EthSt (w w' : World) (xs : List Value) (s : List UInt8) : Prop where
 rX : row w' w.heap.size = xs.toArray
 rE : row w' (w.heap.size + 1) = #[.int .i64 0]
 rR : row w' (w.heap.size + 1 + 1) = #[.string ⟨s.toArray⟩]
 hc : xs.length = 16
 hb : Below w.heap.size w w'
 hs : w.heap.size + 1 + 1 < w'.heap.size
section
variable {w w1 w2 : World} {xs : List Value} {s : List UInt8}
theorem EthSt.setX (h : EthSt w w1 xs s) (xs' : List Value) (hc' : xs'.length = 16) : EthSt w (w1.setRow w.heap.size xs'.toArray) xs' s :=
 ⟨row_setRow_same (by rw [h.rX]; simp [h.hc]) (by rw [h.rX]; simp [h.hc, hc']), by rw [row_setRow_other _ _ _ (by omega)]; exact h.rE, by rw [row_setRow_other _ _ _ (by omega)]; exact h.rR, hc', Below.setRow h.hb (Nat.le_refl _) _, by simpa using h.hs⟩
theorem EthSt.setE (h : EthSt w w1 xs s) : EthSt w (w1.setRow (w.heap.size + 1) #[.int .i64 0]) xs s :=
 ⟨by rw [row_setRow_other _ _ _ (by omega)]; exact h.rX, row_setRow_same (by rw [h.rE]; simp) (by rw [h.rE]), by rw [row_setRow_other _ _ _ (by omega)]; exact h.rR, h.hc, Below.setRow h.hb (by omega) _, by simpa using h.hs⟩
theorem EthSt.below (h : EthSt w w1 xs s) (hb : Below w1.heap.size w1 w2) : EthSt w w2 xs s := by
 have h1 := h.hs
 have h2 := hb.size
 exact ⟨by rw [row_below hb (by omega)]; exact h.rX, by rw [row_below hb (by omega)]; exact h.rE, by rw [row_below hb (by omega)]; exact h.rR, h.hc, Below.trans h.hb (Below.mono hb (by omega)), by omega⟩
theorem EthSt.fail (h : EthSt w w1 xs s) (tmps : Array Value) (v : Value) (n : Int) (h2 : tmps.getD 2 undef = .pointer (some ⟨w.heap.size, 0, none⟩)) (h3 : tmps.getD 3 undef = .pointer (some ⟨w.heap.size + 1, 0, none⟩)) (hv : v = .tuple #[.agg zeroEth.toArray, .int .i64 n]) :
  Leaves Try.prog Try.f41 tmps (fun e w' => e = .returned v ∧ Below w.heap.size w w') [{ target := .fn (.func 70) #[.pointer (some ⟨w.heap.size, 0, none⟩), .pointer (some ⟨w.heap.size + 1, 0, none⟩)], args := #[] }] (.panicking (errP n)) w1 :=
 eth_leaves_panic tmps _ _ n 0 w w1 v h2 h3 (by rw [h.rX]; simp [h.hc]) h.rE (by omega) (by omega) (by omega) h.hb hv
theorem EthSt.good (h : EthSt w w1 xs s) (tmps : Array Value) (v : Value) (h2 : tmps.getD 2 undef = .pointer (some ⟨w.heap.size, 0, none⟩)) (h3 : tmps.getD 3 undef = .pointer (some ⟨w.heap.size + 1, 0, none⟩)) (hv : v = .tuple #[.agg xs.toArray, .int .i64 0]) :
  Leaves Try.prog Try.f41 tmps (fun e w' => e = .returned v ∧ Below w.heap.size w w') [{ target := .fn (.func 70) #[.pointer (some ⟨w.heap.size, 0, none⟩), .pointer (some ⟨w.heap.size + 1, 0, none⟩)], args := #[] }] .returning w1 :=
 eth_leaves_ok tmps _ _ xs w w1 v h2 h3 h.rX h.hc h.rE h.hb hv
def mac0 : Vector UInt8 6 := Vector.replicate 6 0
end
end Go.Proofs.Ytckckabedgpbiaa
