/- Four variables made in any order, then filled one behind the other. No program in sight. -/
import Derived.Test.YtakkicppgkmokaaGreatJ2
set_option linter.unusedSimpArgs false
set_option linter.unusedVariables false
namespace Go.Proofs.YtakkicppgkmokaaGreat
open Go.RowKit
section
variable {P : Program} {ops : Array Oper} {Q : Exit → Act → World → Prop} {md : Region.Mode}
theorem wpAnyR_fill4 {k1 k2 k3 k4 : Nat} {o1 o2 o3 o4 : Oper} {fuel : Nat} {listed : Array Bool} {a : Act} {w : World} {l : List (Nat × Array Value)} {A B C D m : Nat} {cA cB cC cD zA zB zC zD : Array Value}
  (h1 : ops[k1]? = some o1) (h2 : ops[k2]? = some o2) (h3 : ops[k3]? = some o3) (h4 : ops[k4]? = some o4)
  (r1 : Region.ready md ops listed = [k1]) (r2 : Region.ready md ops (listed.setIfInBounds k1 true) = [k2]) (r3 : Region.ready md ops ((listed.setIfInBounds k1 true).setIfInBounds k2 true) = [k3])
  (r4 : Region.ready md ops (((listed.setIfInBounds k1 true).setIfInBounds k2 true).setIfInBounds k3 true) = [k4]) (r5 : Region.ready md ops ((((listed.setIfInBounds k1 true).setIfInBounds k2 true).setIfInBounds k3 true).setIfInBounds k4 true) = [])
  (g1 : o1.guard = none) (g2 : o2.guard = none) (g3 : o3.guard = none) (g4 : o4.guard = none) (d1 : o1.dst = none) (d2 : o2.dst = none) (d3 : o3.dst = none) (d4 : o4.dst = none)
  (nAB : A ≠ B) (nAC : A ≠ C) (nAD : A ≠ D) (nBC : B ≠ C) (nBD : B ≠ D) (nCD : C ≠ D) (mA : m ≤ A) (mB : m ≤ B) (mC : m ≤ C) (mD : m ≤ D) (mw : m ≤ w.heap.size)
  (rA : row w A = zA) (rB : row w B = zB) (rC : row w C = zC) (rD : row w D = zD) (pA : 0 < zA.size) (pB : 0 < zB.size) (pC : 0 < zC.size) (pD : 0 < zD.size)
  (sA : cA.size = zA.size) (sB : cB.size = zB.size) (sC : cC.size = zC.size) (sD : cD.size = zD.size)
  (hl : ∀ p ∈ l, p.1 ≠ A ∧ p.1 ≠ B ∧ p.1 ≠ C ∧ p.1 ≠ D) (hS : Rws l w)
  (v1 : ∀ w1, row w1 A = zA → Stores ((execOp a.eval o1).run P w1) (w1.setRow A cA)) (v2 : ∀ w1, row w1 B = zB → Stores ((execOp a.eval o2).run P w1) (w1.setRow B cB))
  (v3 : ∀ w1, row w1 C = zC → Stores ((execOp a.eval o3).run P w1) (w1.setRow C cC)) (v4 : ∀ w1, row w1 D = zD → Stores ((execOp a.eval o4).run P w1) (w1.setRow D cD))
  (h : ∀ w2, Below m w w2 → row w2 A = cA → row w2 B = cB → row w2 C = cC → row w2 D = cD → (∀ b, b < w.heap.size → b ≠ A → b ≠ B → b ≠ C → b ≠ D → row w2 b = row w b) → Q .normal a w2) :
  wpAnyR P md ops Q (Rws l) (fuel + 1 + 1 + 1 + 1) listed a w := by
 have zA' : A < w.heap.size := lt_of_row (i := 0) (by rw [rA]; exact pA)
 have zB' : B < w.heap.size := lt_of_row (i := 0) (by rw [rB]; exact pB)
 have zC' : C < w.heap.size := lt_of_row (i := 0) (by rw [rC]; exact pC)
 have zD' : D < w.heap.size := lt_of_row (i := 0) (by rw [rD]; exact pD)
 refine wpAnyR_store h1 g1 d1 r1 (fun p hp => (hl p hp).1) hS (by rw [rA]; exact pA) (fun w1 e => v1 w1 (by rw [e, rA])) fun w1 b1 e1 hS1 => ?_
 have f1 : ∀ b, b < w.heap.size → b ≠ A → row (w1.setRow A cA) b = row w b := fun b hb hn => by rw [row_setRow_other _ _ _ hn, row_below b1 hb]
 have q1 : row (w1.setRow A cA) A = cA := row_setRow_same (by rw [e1, rA]; exact pA) (by rw [e1, rA]; exact sA)
 have s1 : w.heap.size ≤ (w1.setRow A cA).heap.size := by rw [setRow_size]; exact b1.size
 have B1 : Below m w (w1.setRow A cA) := Below.setRow (b1.mono mw) mA _
 generalize w1.setRow A cA = W1 at *
 refine wpAnyR_store h2 g2 d2 r2 (fun p hp => (hl p hp).2.1) hS1 (by rw [f1 B zB' (Ne.symm nAB), rB]; exact pB) (fun w1 e => v2 w1 (by rw [e, f1 B zB' (Ne.symm nAB), rB])) fun w2 b2 e2 hS2 => ?_
 have f2 : ∀ b, b < w.heap.size → b ≠ A → b ≠ B → row (w2.setRow B cB) b = row w b := fun b hb hn hn2 => by rw [row_setRow_other _ _ _ hn2, row_below b2 (by omega), f1 b hb hn]
 have q2A : row (w2.setRow B cB) A = cA := by rw [row_setRow_other _ _ _ nAB, row_below b2 (by omega), q1]
 have q2 : row (w2.setRow B cB) B = cB := row_setRow_same (by rw [e2, f1 B zB' (Ne.symm nAB), rB]; exact pB) (by rw [e2, f1 B zB' (Ne.symm nAB), rB]; exact sB)
 have s2 : w.heap.size ≤ (w2.setRow B cB).heap.size := by rw [setRow_size]; have := b2.size; omega
 have B2 : Below m w (w2.setRow B cB) := Below.setRow (B1.trans (b2.mono (by omega))) mB _
 generalize w2.setRow B cB = W2 at *
 refine wpAnyR_store h3 g3 d3 r3 (fun p hp => (hl p hp).2.2.1) hS2 (by rw [f2 C zC' (Ne.symm nAC) (Ne.symm nBC), rC]; exact pC) (fun w1 e => v3 w1 (by rw [e, f2 C zC' (Ne.symm nAC) (Ne.symm nBC), rC])) fun w3 b3 e3 hS3 => ?_
 have f3 : ∀ b, b < w.heap.size → b ≠ A → b ≠ B → b ≠ C → row (w3.setRow C cC) b = row w b := fun b hb hn hn2 hn3 => by rw [row_setRow_other _ _ _ hn3, row_below b3 (by omega), f2 b hb hn hn2]
 have q3A : row (w3.setRow C cC) A = cA := by rw [row_setRow_other _ _ _ nAC, row_below b3 (by omega), q2A]
 have q3B : row (w3.setRow C cC) B = cB := by rw [row_setRow_other _ _ _ nBC, row_below b3 (by omega), q2]
 have q3 : row (w3.setRow C cC) C = cC := row_setRow_same (by rw [e3, f2 C zC' (Ne.symm nAC) (Ne.symm nBC), rC]; exact pC) (by rw [e3, f2 C zC' (Ne.symm nAC) (Ne.symm nBC), rC]; exact sC)
 have s3 : w.heap.size ≤ (w3.setRow C cC).heap.size := by rw [setRow_size]; have := b3.size; omega
 have B3 : Below m w (w3.setRow C cC) := Below.setRow (B2.trans (b3.mono (by omega))) mC _
 generalize w3.setRow C cC = W3 at *
 refine wpAnyR_store h4 g4 d4 r4 (fun p hp => (hl p hp).2.2.2) hS3 (by rw [f3 D zD' (Ne.symm nAD) (Ne.symm nBD) (Ne.symm nCD), rD]; exact pD) (fun w1 e => v4 w1 (by rw [e, f3 D zD' (Ne.symm nAD) (Ne.symm nBD) (Ne.symm nCD), rD])) fun w4 b4 e4 hS4 => ?_
 have f4 : ∀ b, b < w.heap.size → b ≠ A → b ≠ B → b ≠ C → b ≠ D → row (w4.setRow D cD) b = row w b := fun b hb hn hn2 hn3 hn4 => by rw [row_setRow_other _ _ _ hn4, row_below b4 (by omega), f3 b hb hn hn2 hn3]
 have q4A : row (w4.setRow D cD) A = cA := by rw [row_setRow_other _ _ _ nAD, row_below b4 (by omega), q3A]
 have q4B : row (w4.setRow D cD) B = cB := by rw [row_setRow_other _ _ _ nBD, row_below b4 (by omega), q3B]
 have q4C : row (w4.setRow D cD) C = cC := by rw [row_setRow_other _ _ _ nCD, row_below b4 (by omega), q3]
 have q4 : row (w4.setRow D cD) D = cD := row_setRow_same (by rw [e4, f3 D zD' (Ne.symm nAD) (Ne.symm nBD) (Ne.symm nCD), rD]; exact pD) (by rw [e4, f3 D zD' (Ne.symm nAD) (Ne.symm nBD) (Ne.symm nCD), rD]; exact sD)
 have s4 : w.heap.size ≤ (w4.setRow D cD).heap.size := by rw [setRow_size]; have := b4.size; omega
 have B4 : Below m w (w4.setRow D cD) := Below.setRow (B3.trans (b4.mono (by omega))) mD _
 generalize w4.setRow D cD = W4 at *
 refine wpAnyR_done r5 (fun w5 b5 => ?_) _
 refine h w5 (B4.trans (b5.mono (by omega))) ?_ ?_ ?_ ?_ fun b hb hn hn2 hn3 hn4 => ?_
 ·
  rw [row_below b5 (by omega), q4A]
 ·
  rw [row_below b5 (by omega), q4B]
 ·
  rw [row_below b5 (by omega), q4C]
 ·
  rw [row_below b5 (by omega), q4]
 ·
  rw [row_below b5 (by omega), f4 b hb hn hn2 hn3 hn4]
theorem wpAnyR_fill3 {k1 k2 k3 : Nat} {o1 o2 o3 : Oper} {fuel : Nat} {listed : Array Bool} {a : Act} {w : World} {l : List (Nat × Array Value)} {A B C m : Nat} {cA cB cC zA zB zC : Array Value}
  (h1 : ops[k1]? = some o1) (h2 : ops[k2]? = some o2) (h3 : ops[k3]? = some o3)
  (r1 : Region.ready md ops listed = [k1]) (r2 : Region.ready md ops (listed.setIfInBounds k1 true) = [k2]) (r3 : Region.ready md ops ((listed.setIfInBounds k1 true).setIfInBounds k2 true) = [k3])
  (r4 : Region.ready md ops (((listed.setIfInBounds k1 true).setIfInBounds k2 true).setIfInBounds k3 true) = [])
  (g1 : o1.guard = none) (g2 : o2.guard = none) (g3 : o3.guard = none) (d1 : o1.dst = none) (d2 : o2.dst = none) (d3 : o3.dst = none)
  (nAB : A ≠ B) (nAC : A ≠ C) (nBC : B ≠ C) (mA : m ≤ A) (mB : m ≤ B) (mC : m ≤ C) (mw : m ≤ w.heap.size)
  (rA : row w A = zA) (rB : row w B = zB) (rC : row w C = zC) (pA : 0 < zA.size) (pB : 0 < zB.size) (pC : 0 < zC.size)
  (sA : cA.size = zA.size) (sB : cB.size = zB.size) (sC : cC.size = zC.size)
  (hl : ∀ p ∈ l, p.1 ≠ A ∧ p.1 ≠ B ∧ p.1 ≠ C) (hS : Rws l w)
  (v1 : ∀ w1, row w1 A = zA → Stores ((execOp a.eval o1).run P w1) (w1.setRow A cA)) (v2 : ∀ w1, row w1 B = zB → Stores ((execOp a.eval o2).run P w1) (w1.setRow B cB))
  (v3 : ∀ w1, row w1 C = zC → Stores ((execOp a.eval o3).run P w1) (w1.setRow C cC))
  (h : ∀ w2, Below m w w2 → row w2 A = cA → row w2 B = cB → row w2 C = cC → (∀ b, b < w.heap.size → b ≠ A → b ≠ B → b ≠ C → row w2 b = row w b) → Q .normal a w2) :
  wpAnyR P md ops Q (Rws l) (fuel + 1 + 1 + 1) listed a w := by
 have zA' : A < w.heap.size := lt_of_row (i := 0) (by rw [rA]; exact pA)
 have zB' : B < w.heap.size := lt_of_row (i := 0) (by rw [rB]; exact pB)
 have zC' : C < w.heap.size := lt_of_row (i := 0) (by rw [rC]; exact pC)
 refine wpAnyR_store h1 g1 d1 r1 (fun p hp => (hl p hp).1) hS (by rw [rA]; exact pA) (fun w1 e => v1 w1 (by rw [e, rA])) fun w1 b1 e1 hS1 => ?_
 have f1 : ∀ b, b < w.heap.size → b ≠ A → row (w1.setRow A cA) b = row w b := fun b hb hn => by rw [row_setRow_other _ _ _ hn, row_below b1 hb]
 have q1 : row (w1.setRow A cA) A = cA := row_setRow_same (by rw [e1, rA]; exact pA) (by rw [e1, rA]; exact sA)
 have s1 : w.heap.size ≤ (w1.setRow A cA).heap.size := by rw [setRow_size]; exact b1.size
 have B1 : Below m w (w1.setRow A cA) := Below.setRow (b1.mono mw) mA _
 generalize w1.setRow A cA = W1 at *
 refine wpAnyR_store h2 g2 d2 r2 (fun p hp => (hl p hp).2.1) hS1 (by rw [f1 B zB' (Ne.symm nAB), rB]; exact pB) (fun w1 e => v2 w1 (by rw [e, f1 B zB' (Ne.symm nAB), rB])) fun w2 b2 e2 hS2 => ?_
 have f2 : ∀ b, b < w.heap.size → b ≠ A → b ≠ B → row (w2.setRow B cB) b = row w b := fun b hb hn hn2 => by rw [row_setRow_other _ _ _ hn2, row_below b2 (by omega), f1 b hb hn]
 have q2A : row (w2.setRow B cB) A = cA := by rw [row_setRow_other _ _ _ nAB, row_below b2 (by omega), q1]
 have q2 : row (w2.setRow B cB) B = cB := row_setRow_same (by rw [e2, f1 B zB' (Ne.symm nAB), rB]; exact pB) (by rw [e2, f1 B zB' (Ne.symm nAB), rB]; exact sB)
 have s2 : w.heap.size ≤ (w2.setRow B cB).heap.size := by rw [setRow_size]; have := b2.size; omega
 have B2 : Below m w (w2.setRow B cB) := Below.setRow (B1.trans (b2.mono (by omega))) mB _
 generalize w2.setRow B cB = W2 at *
 refine wpAnyR_store h3 g3 d3 r3 (fun p hp => (hl p hp).2.2) hS2 (by rw [f2 C zC' (Ne.symm nAC) (Ne.symm nBC), rC]; exact pC) (fun w1 e => v3 w1 (by rw [e, f2 C zC' (Ne.symm nAC) (Ne.symm nBC), rC])) fun w3 b3 e3 hS3 => ?_
 have f3 : ∀ b, b < w.heap.size → b ≠ A → b ≠ B → b ≠ C → row (w3.setRow C cC) b = row w b := fun b hb hn hn2 hn3 => by rw [row_setRow_other _ _ _ hn3, row_below b3 (by omega), f2 b hb hn hn2]
 have q3A : row (w3.setRow C cC) A = cA := by rw [row_setRow_other _ _ _ nAC, row_below b3 (by omega), q2A]
 have q3B : row (w3.setRow C cC) B = cB := by rw [row_setRow_other _ _ _ nBC, row_below b3 (by omega), q2]
 have q3 : row (w3.setRow C cC) C = cC := row_setRow_same (by rw [e3, f2 C zC' (Ne.symm nAC) (Ne.symm nBC), rC]; exact pC) (by rw [e3, f2 C zC' (Ne.symm nAC) (Ne.symm nBC), rC]; exact sC)
 have s3 : w.heap.size ≤ (w3.setRow C cC).heap.size := by rw [setRow_size]; have := b3.size; omega
 have B3 : Below m w (w3.setRow C cC) := Below.setRow (B2.trans (b3.mono (by omega))) mC _
 generalize w3.setRow C cC = W3 at *
 refine wpAnyR_done r4 (fun w5 b5 => ?_) _
 refine h w5 (B3.trans (b5.mono (by omega))) ?_ ?_ ?_ fun b hb hn hn2 hn3 => ?_
 ·
  rw [row_below b5 (by omega), q3A]
 ·
  rw [row_below b5 (by omega), q3B]
 ·
  rw [row_below b5 (by omega), q3]
 ·
  rw [row_below b5 (by omega), f3 b hb hn hn2 hn3]
theorem wpAnyK_swap {i k : Nat} {oi ok : Oper} {d : Tmp} {v : Value} {fuel : Nat} {listed : Array Bool} {a : Act} {w : World} {l : List (Nat × Array Value)} {A D m : Nat} {cA zA zD : Array Value}
  (hi : ops[i]? = some oi) (hk : ops[k]? = some ok) (hik : i ≠ k) (gi : oi.guard = none) (gk : ok.guard = none) (di : oi.dst = some d) (dk : ok.dst = none)
  (r0 : Region.ready md ops listed = [i, k]) (r1 : Region.ready md ops (listed.setIfInBounds i true) = [k]) (r2 : Region.ready md ops (listed.setIfInBounds k true) = [i])
  (nAD : A ≠ D) (mA : m ≤ A) (mw : m ≤ w.heap.size) (rA : row w A = zA) (rD : row w D = zD) (pA : 0 < zA.size) (pD : 0 < zD.size) (sA : cA.size = zA.size) (hS : Rws l w)
  (ri : ∀ w1, row w1 D = zD → (execOp a.eval oi).run P w1 = .ok (.value v) w1)
  (rk1 : ∀ w1, row w1 A = zA → Stores ((execOp a.eval ok).run P w1) (w1.setRow A cA))
  (rk2 : ∀ w1, row w1 A = zA → Stores ((execOp (a.put (some d) v).eval ok).run P w1) (w1.setRow A cA))
  (h : ∀ w2, Below m w w2 → row w2 A = cA → (∀ b, b < w.heap.size → b ≠ A → row w2 b = row w b) → w.heap.size ≤ w2.heap.size → wpAnyR P md ops Q (Rws []) fuel ((listed.setIfInBounds i true).setIfInBounds k true) (a.put (some d) v) w2) :
  wpAnyK P md ops Q (Rws l) (Rws []) k (fuel + 1 + 1) listed a w := by
 have zA' : A < w.heap.size := lt_of_row (i := 0) (by rw [rA]; exact pA)
 have zD' : D < w.heap.size := lt_of_row (i := 0) (by rw [rD]; exact pD)
 intro w1 b1
 have e1 := b1.size
 refine ⟨fun h0 => by rw [r0] at h0; simp at h0, fun j hj => ?_⟩
 rw [r0] at hj
 simp only [List.mem_cons, List.not_mem_nil, or_false] at hj
 rcases hj with rfl | rfl
 ·
  refine wpOp_run hi gi (ri w1 (by rw [row_below b1 zD', rD])) rfl ?_
  rw [if_neg hik, di]
  refine ⟨Rws.grow l _ _ hS b1, ?_⟩
  refine wpAnyK_store hk gk dk r1 fun w2 b2 => ?_
  have e2 := b2.size
  have hA : row w2 A = zA := by rw [row_below b2 (by omega), row_below b1 zA', rA]
  refine ⟨w2.setRow A cA, rk2 w2 hA, trivial, fun _ => ?_⟩
  refine h _ (Below.setRow (Below.trans (b1.mono mw) (b2.mono (by omega))) mA _) (row_setRow_same (by rw [hA]; exact pA) (by rw [hA]; exact sA)) (fun b hb hn => ?_) (by rw [setRow_size]; omega)
  rw [row_setRow_other _ _ _ hn, row_below b2 (by omega), row_below b1 hb]
 ·
  have hA : row w1 A = zA := by rw [row_below b1 zA', rA]
  obtain ⟨n, u, hn1, hn2⟩ := rk1 w1 hA
  refine wpOp_run hk gk hn1 hn2 ?_
  rw [if_pos rfl, dk]
  refine ⟨trivial, wpAnyR_one hi gi r2 fun w3 b3 => ?_⟩
  have e3 := b3.size
  rw [setRow_size] at e3
  have hD : row w3 D = zD := by rw [row_below b3 (by rw [setRow_size]; omega), row_setRow_other _ _ _ (Ne.symm nAD), row_below b1 zD', rD]
  refine ⟨_, _, _, ri w3 hD, rfl, trivial, ?_⟩
  rw [di, Array.setIfInBounds_comm _ _ (Ne.symm hik)]
  refine h w3 (Below.trans (Below.setRow (b1.mono mw) mA _) (b3.mono (by rw [setRow_size]; omega))) ?_ (fun b hb hn => ?_) (by omega)
  ·
   rw [row_below b3 (by rw [setRow_size]; omega)]
   exact row_setRow_same (by rw [hA]; exact pA) (by rw [hA]; exact sA)
  ·
   rw [row_below b3 (by rw [setRow_size]; omega), row_setRow_other _ _ _ hn, row_below b1 hb]
theorem wpAnyR_among {L : List Nat} {fuel : Nat} {listed : Array Bool} {a : Act} {w : World} {l : List (Nat × Array Value)} (r : Region.ready md ops listed = L) (hne : L ≠ []) (hS : Rws l w)
  (h : ∀ i ∈ L, ∃ o d z t, ops[i]? = some o ∧ News P o d z t ∧ ∀ A w2, w.heap.size ≤ A → A < w2.heap.size → Below w.heap.size w w2 → Rws l w2 → row w2 A = z → wpAnyR P md ops Q (Rws l) fuel (listed.setIfInBounds i true) (a.put (some d) (ptr A)) w2) :
  wpAnyR P md ops Q (Rws l) (fuel + 1) listed a w := by
 intro w1 b1
 refine ⟨fun h0 => absurd (r.symm.trans h0) hne, fun i hi => ?_⟩
 rw [r] at hi
 obtain ⟨o, d, z, t, ho, hn, hc⟩ := h i hi
 have e1 := b1.size
 have hS1 : Rws l w1 := Rws.grow l _ _ hS b1
 refine wpOp_run ho hn.guard (hn.run a w1) rfl ⟨hS1.alloc _, ?_⟩
 rw [hn.dst]
 exact hc _ _ e1 (by rw [alloc_sizeW]; omega) (Below.alloc b1 e1 _) (hS1.alloc _) (row_alloc_at _ _ _ rfl)
theorem wpAnyR_four {i1 i2 i3 i4 : Nat} {o1 o2 o3 o4 : Oper} {d1 d2 d3 d4 : Tmp} {z : Array Value} {t : TypeId} {fuel : Nat} {listed : Array Bool} {a : Act} {w : World} {l : List (Nat × Array Value)}
  (h1 : ops[i1]? = some o1) (h2 : ops[i2]? = some o2) (h3 : ops[i3]? = some o3) (h4 : ops[i4]? = some o4) (n1 : News P o1 d1 z t) (n2 : News P o2 d2 z t) (n3 : News P o3 d3 z t) (n4 : News P o4 d4 z t)
  (e12 : d1 ≠ d2) (j12 : i1 ≠ i2)
  (e13 : d1 ≠ d3) (j13 : i1 ≠ i3)
  (e14 : d1 ≠ d4) (j14 : i1 ≠ i4)
  (e23 : d2 ≠ d3) (j23 : i2 ≠ i3)
  (e24 : d2 ≠ d4) (j24 : i2 ≠ i4)
  (e34 : d3 ≠ d4) (j34 : i3 ≠ i4)
  (r0 : Region.ready md ops (listed) = [i1, i2, i3, i4])
  (r1 : Region.ready md ops (listed.setIfInBounds i1 true) = [i2, i3, i4])
  (r2 : Region.ready md ops (listed.setIfInBounds i2 true) = [i1, i3, i4])
  (r3 : Region.ready md ops (listed.setIfInBounds i3 true) = [i1, i2, i4])
  (r4 : Region.ready md ops (listed.setIfInBounds i4 true) = [i1, i2, i3])
  (r12 : Region.ready md ops ((listed.setIfInBounds i1 true).setIfInBounds i2 true) = [i3, i4])
  (r13 : Region.ready md ops ((listed.setIfInBounds i1 true).setIfInBounds i3 true) = [i2, i4])
  (r14 : Region.ready md ops ((listed.setIfInBounds i1 true).setIfInBounds i4 true) = [i2, i3])
  (r23 : Region.ready md ops ((listed.setIfInBounds i2 true).setIfInBounds i3 true) = [i1, i4])
  (r24 : Region.ready md ops ((listed.setIfInBounds i2 true).setIfInBounds i4 true) = [i1, i3])
  (r34 : Region.ready md ops ((listed.setIfInBounds i3 true).setIfInBounds i4 true) = [i1, i2])
  (r123 : Region.ready md ops (((listed.setIfInBounds i1 true).setIfInBounds i2 true).setIfInBounds i3 true) = [i4])
  (r124 : Region.ready md ops (((listed.setIfInBounds i1 true).setIfInBounds i2 true).setIfInBounds i4 true) = [i3])
  (r134 : Region.ready md ops (((listed.setIfInBounds i1 true).setIfInBounds i3 true).setIfInBounds i4 true) = [i2])
  (r234 : Region.ready md ops (((listed.setIfInBounds i2 true).setIfInBounds i3 true).setIfInBounds i4 true) = [i1])
  (hS : Rws l w)
  (h : ∀ A B C D w2, w.heap.size ≤ A → w.heap.size ≤ B → w.heap.size ≤ C → w.heap.size ≤ D → A ≠ B → A ≠ C → A ≠ D → B ≠ C → B ≠ D → C ≠ D → A < w2.heap.size → B < w2.heap.size → C < w2.heap.size → D < w2.heap.size → Below w.heap.size w w2 → Rws l w2 → row w2 A = z → row w2 B = z → row w2 C = z → row w2 D = z →
   wpAnyR P md ops Q (Rws l) fuel ((((listed.setIfInBounds i1 true).setIfInBounds i2 true).setIfInBounds i3 true).setIfInBounds i4 true) ((((a.put (some d1) (ptr A)).put (some d2) (ptr B)).put (some d3) (ptr C)).put (some d4) (ptr D)) w2) :
  wpAnyR P md ops Q (Rws l) (fuel + 1 + 1 + 1 + 1) listed a w := by
 have c21 : ∀ (x : Act) (u v : Value), (x.put (some d2) u).put (some d1) v = (x.put (some d1) v).put (some d2) u := fun x u v => Act.put_comm x u v (fun d hd => by simp only [Option.some.injEq] at hd; subst hd; simp; exact e12)
 have s21 : ∀ (x : Array Bool), (x.setIfInBounds i2 true).setIfInBounds i1 true = (x.setIfInBounds i1 true).setIfInBounds i2 true := fun x => Array.setIfInBounds_comm _ _ (Ne.symm j12)
 have c31 : ∀ (x : Act) (u v : Value), (x.put (some d3) u).put (some d1) v = (x.put (some d1) v).put (some d3) u := fun x u v => Act.put_comm x u v (fun d hd => by simp only [Option.some.injEq] at hd; subst hd; simp; exact e13)
 have s31 : ∀ (x : Array Bool), (x.setIfInBounds i3 true).setIfInBounds i1 true = (x.setIfInBounds i1 true).setIfInBounds i3 true := fun x => Array.setIfInBounds_comm _ _ (Ne.symm j13)
 have c41 : ∀ (x : Act) (u v : Value), (x.put (some d4) u).put (some d1) v = (x.put (some d1) v).put (some d4) u := fun x u v => Act.put_comm x u v (fun d hd => by simp only [Option.some.injEq] at hd; subst hd; simp; exact e14)
 have s41 : ∀ (x : Array Bool), (x.setIfInBounds i4 true).setIfInBounds i1 true = (x.setIfInBounds i1 true).setIfInBounds i4 true := fun x => Array.setIfInBounds_comm _ _ (Ne.symm j14)
 have c32 : ∀ (x : Act) (u v : Value), (x.put (some d3) u).put (some d2) v = (x.put (some d2) v).put (some d3) u := fun x u v => Act.put_comm x u v (fun d hd => by simp only [Option.some.injEq] at hd; subst hd; simp; exact e23)
 have s32 : ∀ (x : Array Bool), (x.setIfInBounds i3 true).setIfInBounds i2 true = (x.setIfInBounds i2 true).setIfInBounds i3 true := fun x => Array.setIfInBounds_comm _ _ (Ne.symm j23)
 have c42 : ∀ (x : Act) (u v : Value), (x.put (some d4) u).put (some d2) v = (x.put (some d2) v).put (some d4) u := fun x u v => Act.put_comm x u v (fun d hd => by simp only [Option.some.injEq] at hd; subst hd; simp; exact e24)
 have s42 : ∀ (x : Array Bool), (x.setIfInBounds i4 true).setIfInBounds i2 true = (x.setIfInBounds i2 true).setIfInBounds i4 true := fun x => Array.setIfInBounds_comm _ _ (Ne.symm j24)
 have c43 : ∀ (x : Act) (u v : Value), (x.put (some d4) u).put (some d3) v = (x.put (some d3) v).put (some d4) u := fun x u v => Act.put_comm x u v (fun d hd => by simp only [Option.some.injEq] at hd; subst hd; simp; exact e34)
 have s43 : ∀ (x : Array Bool), (x.setIfInBounds i4 true).setIfInBounds i3 true = (x.setIfInBounds i3 true).setIfInBounds i4 true := fun x => Array.setIfInBounds_comm _ _ (Ne.symm j34)
 refine wpAnyR_among r0 (by simp) hS fun i hi => ?_
 simp only [List.mem_cons, List.not_mem_nil, or_false] at hi
 rcases hi with rfl | rfl | rfl | rfl
 ·
  refine ⟨_, _, _, _, h1, n1, fun A w2 g1 y1 b2 k2 q1 => ?_⟩
  refine wpAnyR_among r1 (by simp) k2 fun i hi => ?_
  simp only [List.mem_cons, List.not_mem_nil, or_false] at hi
  rcases hi with rfl | rfl | rfl
  ·
   refine ⟨_, _, _, _, h2, n2, fun B w3 g2 y2 b3 k3 q2 => ?_⟩
   refine wpAnyR_two h3 h4 n3 n4 e34 j34 (by (try simp only [s21, s31, s41, s32, s42, s43]); exact r12) (by (try simp only [s21, s31, s41, s32, s42, s43]); exact r123) (by (try simp only [s21, s31, s41, s32, s42, s43]); exact r124) k3 fun C D w4 g3 g4 x34 y3 y4 b4 k4 q3 q4 => ?_
   (try simp only [s21, s31, s41, s32, s42, s43, c21, c31, c41, c32, c42, c43])
   have z3 := b3.size
   have z4 := b4.size
   have z2 := b2.size
   exact h A B C D w4 (by omega) (by omega) (by omega) (by omega) (by omega) (by omega) (by omega) (by omega) (by omega) (by omega) (by omega) (by omega) (by omega) (by omega) (b2.trans ((b3.mono (by omega)).trans (b4.mono (by omega)))) k4 (by rw [row_below b4 (by omega), row_below b3 (by omega), q1]) (by rw [row_below b4 (by omega), q2]) q3 q4
  ·
   refine ⟨_, _, _, _, h3, n3, fun C w3 g3 y3 b3 k3 q3 => ?_⟩
   refine wpAnyR_two h2 h4 n2 n4 e24 j24 (by (try simp only [s21, s31, s41, s32, s42, s43]); exact r13) (by (try simp only [s21, s31, s41, s32, s42, s43]); exact r123) (by (try simp only [s21, s31, s41, s32, s42, s43]); exact r134) k3 fun B D w4 g2 g4 x24 y2 y4 b4 k4 q2 q4 => ?_
   (try simp only [s21, s31, s41, s32, s42, s43, c21, c31, c41, c32, c42, c43])
   have z3 := b3.size
   have z4 := b4.size
   have z2 := b2.size
   exact h A B C D w4 (by omega) (by omega) (by omega) (by omega) (by omega) (by omega) (by omega) (by omega) (by omega) (by omega) (by omega) (by omega) (by omega) (by omega) (b2.trans ((b3.mono (by omega)).trans (b4.mono (by omega)))) k4 (by rw [row_below b4 (by omega), row_below b3 (by omega), q1]) q2 (by rw [row_below b4 (by omega), q3]) q4
  ·
   refine ⟨_, _, _, _, h4, n4, fun D w3 g4 y4 b3 k3 q4 => ?_⟩
   refine wpAnyR_two h2 h3 n2 n3 e23 j23 (by (try simp only [s21, s31, s41, s32, s42, s43]); exact r14) (by (try simp only [s21, s31, s41, s32, s42, s43]); exact r124) (by (try simp only [s21, s31, s41, s32, s42, s43]); exact r134) k3 fun B C w4 g2 g3 x23 y2 y3 b4 k4 q2 q3 => ?_
   (try simp only [s21, s31, s41, s32, s42, s43, c21, c31, c41, c32, c42, c43])
   have z3 := b3.size
   have z4 := b4.size
   have z2 := b2.size
   exact h A B C D w4 (by omega) (by omega) (by omega) (by omega) (by omega) (by omega) (by omega) (by omega) (by omega) (by omega) (by omega) (by omega) (by omega) (by omega) (b2.trans ((b3.mono (by omega)).trans (b4.mono (by omega)))) k4 (by rw [row_below b4 (by omega), row_below b3 (by omega), q1]) q2 q3 (by rw [row_below b4 (by omega), q4])
 ·
  refine ⟨_, _, _, _, h2, n2, fun B w2 g2 y2 b2 k2 q2 => ?_⟩
  refine wpAnyR_among r2 (by simp) k2 fun i hi => ?_
  simp only [List.mem_cons, List.not_mem_nil, or_false] at hi
  rcases hi with rfl | rfl | rfl
  ·
   refine ⟨_, _, _, _, h1, n1, fun A w3 g1 y1 b3 k3 q1 => ?_⟩
   refine wpAnyR_two h3 h4 n3 n4 e34 j34 (by (try simp only [s21, s31, s41, s32, s42, s43]); exact r12) (by (try simp only [s21, s31, s41, s32, s42, s43]); exact r123) (by (try simp only [s21, s31, s41, s32, s42, s43]); exact r124) k3 fun C D w4 g3 g4 x34 y3 y4 b4 k4 q3 q4 => ?_
   (try simp only [s21, s31, s41, s32, s42, s43, c21, c31, c41, c32, c42, c43])
   have z3 := b3.size
   have z4 := b4.size
   have z2 := b2.size
   exact h A B C D w4 (by omega) (by omega) (by omega) (by omega) (by omega) (by omega) (by omega) (by omega) (by omega) (by omega) (by omega) (by omega) (by omega) (by omega) (b2.trans ((b3.mono (by omega)).trans (b4.mono (by omega)))) k4 (by rw [row_below b4 (by omega), q1]) (by rw [row_below b4 (by omega), row_below b3 (by omega), q2]) q3 q4
  ·
   refine ⟨_, _, _, _, h3, n3, fun C w3 g3 y3 b3 k3 q3 => ?_⟩
   refine wpAnyR_two h1 h4 n1 n4 e14 j14 (by (try simp only [s21, s31, s41, s32, s42, s43]); exact r23) (by (try simp only [s21, s31, s41, s32, s42, s43]); exact r123) (by (try simp only [s21, s31, s41, s32, s42, s43]); exact r234) k3 fun A D w4 g1 g4 x14 y1 y4 b4 k4 q1 q4 => ?_
   (try simp only [s21, s31, s41, s32, s42, s43, c21, c31, c41, c32, c42, c43])
   have z3 := b3.size
   have z4 := b4.size
   have z2 := b2.size
   exact h A B C D w4 (by omega) (by omega) (by omega) (by omega) (by omega) (by omega) (by omega) (by omega) (by omega) (by omega) (by omega) (by omega) (by omega) (by omega) (b2.trans ((b3.mono (by omega)).trans (b4.mono (by omega)))) k4 q1 (by rw [row_below b4 (by omega), row_below b3 (by omega), q2]) (by rw [row_below b4 (by omega), q3]) q4
  ·
   refine ⟨_, _, _, _, h4, n4, fun D w3 g4 y4 b3 k3 q4 => ?_⟩
   refine wpAnyR_two h1 h3 n1 n3 e13 j13 (by (try simp only [s21, s31, s41, s32, s42, s43]); exact r24) (by (try simp only [s21, s31, s41, s32, s42, s43]); exact r124) (by (try simp only [s21, s31, s41, s32, s42, s43]); exact r234) k3 fun A C w4 g1 g3 x13 y1 y3 b4 k4 q1 q3 => ?_
   (try simp only [s21, s31, s41, s32, s42, s43, c21, c31, c41, c32, c42, c43])
   have z3 := b3.size
   have z4 := b4.size
   have z2 := b2.size
   exact h A B C D w4 (by omega) (by omega) (by omega) (by omega) (by omega) (by omega) (by omega) (by omega) (by omega) (by omega) (by omega) (by omega) (by omega) (by omega) (b2.trans ((b3.mono (by omega)).trans (b4.mono (by omega)))) k4 q1 (by rw [row_below b4 (by omega), row_below b3 (by omega), q2]) q3 (by rw [row_below b4 (by omega), q4])
 ·
  refine ⟨_, _, _, _, h3, n3, fun C w2 g3 y3 b2 k2 q3 => ?_⟩
  refine wpAnyR_among r3 (by simp) k2 fun i hi => ?_
  simp only [List.mem_cons, List.not_mem_nil, or_false] at hi
  rcases hi with rfl | rfl | rfl
  ·
   refine ⟨_, _, _, _, h1, n1, fun A w3 g1 y1 b3 k3 q1 => ?_⟩
   refine wpAnyR_two h2 h4 n2 n4 e24 j24 (by (try simp only [s21, s31, s41, s32, s42, s43]); exact r13) (by (try simp only [s21, s31, s41, s32, s42, s43]); exact r123) (by (try simp only [s21, s31, s41, s32, s42, s43]); exact r134) k3 fun B D w4 g2 g4 x24 y2 y4 b4 k4 q2 q4 => ?_
   (try simp only [s21, s31, s41, s32, s42, s43, c21, c31, c41, c32, c42, c43])
   have z3 := b3.size
   have z4 := b4.size
   have z2 := b2.size
   exact h A B C D w4 (by omega) (by omega) (by omega) (by omega) (by omega) (by omega) (by omega) (by omega) (by omega) (by omega) (by omega) (by omega) (by omega) (by omega) (b2.trans ((b3.mono (by omega)).trans (b4.mono (by omega)))) k4 (by rw [row_below b4 (by omega), q1]) q2 (by rw [row_below b4 (by omega), row_below b3 (by omega), q3]) q4
  ·
   refine ⟨_, _, _, _, h2, n2, fun B w3 g2 y2 b3 k3 q2 => ?_⟩
   refine wpAnyR_two h1 h4 n1 n4 e14 j14 (by (try simp only [s21, s31, s41, s32, s42, s43]); exact r23) (by (try simp only [s21, s31, s41, s32, s42, s43]); exact r123) (by (try simp only [s21, s31, s41, s32, s42, s43]); exact r234) k3 fun A D w4 g1 g4 x14 y1 y4 b4 k4 q1 q4 => ?_
   (try simp only [s21, s31, s41, s32, s42, s43, c21, c31, c41, c32, c42, c43])
   have z3 := b3.size
   have z4 := b4.size
   have z2 := b2.size
   exact h A B C D w4 (by omega) (by omega) (by omega) (by omega) (by omega) (by omega) (by omega) (by omega) (by omega) (by omega) (by omega) (by omega) (by omega) (by omega) (b2.trans ((b3.mono (by omega)).trans (b4.mono (by omega)))) k4 q1 (by rw [row_below b4 (by omega), q2]) (by rw [row_below b4 (by omega), row_below b3 (by omega), q3]) q4
  ·
   refine ⟨_, _, _, _, h4, n4, fun D w3 g4 y4 b3 k3 q4 => ?_⟩
   refine wpAnyR_two h1 h2 n1 n2 e12 j12 (by (try simp only [s21, s31, s41, s32, s42, s43]); exact r34) (by (try simp only [s21, s31, s41, s32, s42, s43]); exact r134) (by (try simp only [s21, s31, s41, s32, s42, s43]); exact r234) k3 fun A B w4 g1 g2 x12 y1 y2 b4 k4 q1 q2 => ?_
   (try simp only [s21, s31, s41, s32, s42, s43, c21, c31, c41, c32, c42, c43])
   have z3 := b3.size
   have z4 := b4.size
   have z2 := b2.size
   exact h A B C D w4 (by omega) (by omega) (by omega) (by omega) (by omega) (by omega) (by omega) (by omega) (by omega) (by omega) (by omega) (by omega) (by omega) (by omega) (b2.trans ((b3.mono (by omega)).trans (b4.mono (by omega)))) k4 q1 q2 (by rw [row_below b4 (by omega), row_below b3 (by omega), q3]) (by rw [row_below b4 (by omega), q4])
 ·
  refine ⟨_, _, _, _, h4, n4, fun D w2 g4 y4 b2 k2 q4 => ?_⟩
  refine wpAnyR_among r4 (by simp) k2 fun i hi => ?_
  simp only [List.mem_cons, List.not_mem_nil, or_false] at hi
  rcases hi with rfl | rfl | rfl
  ·
   refine ⟨_, _, _, _, h1, n1, fun A w3 g1 y1 b3 k3 q1 => ?_⟩
   refine wpAnyR_two h2 h3 n2 n3 e23 j23 (by (try simp only [s21, s31, s41, s32, s42, s43]); exact r14) (by (try simp only [s21, s31, s41, s32, s42, s43]); exact r124) (by (try simp only [s21, s31, s41, s32, s42, s43]); exact r134) k3 fun B C w4 g2 g3 x23 y2 y3 b4 k4 q2 q3 => ?_
   (try simp only [s21, s31, s41, s32, s42, s43, c21, c31, c41, c32, c42, c43])
   have z3 := b3.size
   have z4 := b4.size
   have z2 := b2.size
   exact h A B C D w4 (by omega) (by omega) (by omega) (by omega) (by omega) (by omega) (by omega) (by omega) (by omega) (by omega) (by omega) (by omega) (by omega) (by omega) (b2.trans ((b3.mono (by omega)).trans (b4.mono (by omega)))) k4 (by rw [row_below b4 (by omega), q1]) q2 q3 (by rw [row_below b4 (by omega), row_below b3 (by omega), q4])
  ·
   refine ⟨_, _, _, _, h2, n2, fun B w3 g2 y2 b3 k3 q2 => ?_⟩
   refine wpAnyR_two h1 h3 n1 n3 e13 j13 (by (try simp only [s21, s31, s41, s32, s42, s43]); exact r24) (by (try simp only [s21, s31, s41, s32, s42, s43]); exact r124) (by (try simp only [s21, s31, s41, s32, s42, s43]); exact r234) k3 fun A C w4 g1 g3 x13 y1 y3 b4 k4 q1 q3 => ?_
   (try simp only [s21, s31, s41, s32, s42, s43, c21, c31, c41, c32, c42, c43])
   have z3 := b3.size
   have z4 := b4.size
   have z2 := b2.size
   exact h A B C D w4 (by omega) (by omega) (by omega) (by omega) (by omega) (by omega) (by omega) (by omega) (by omega) (by omega) (by omega) (by omega) (by omega) (by omega) (b2.trans ((b3.mono (by omega)).trans (b4.mono (by omega)))) k4 q1 (by rw [row_below b4 (by omega), q2]) q3 (by rw [row_below b4 (by omega), row_below b3 (by omega), q4])
  ·
   refine ⟨_, _, _, _, h3, n3, fun C w3 g3 y3 b3 k3 q3 => ?_⟩
   refine wpAnyR_two h1 h2 n1 n2 e12 j12 (by (try simp only [s21, s31, s41, s32, s42, s43]); exact r34) (by (try simp only [s21, s31, s41, s32, s42, s43]); exact r134) (by (try simp only [s21, s31, s41, s32, s42, s43]); exact r234) k3 fun A B w4 g1 g2 x12 y1 y2 b4 k4 q1 q2 => ?_
   (try simp only [s21, s31, s41, s32, s42, s43, c21, c31, c41, c32, c42, c43])
   have z3 := b3.size
   have z4 := b4.size
   have z2 := b2.size
   exact h A B C D w4 (by omega) (by omega) (by omega) (by omega) (by omega) (by omega) (by omega) (by omega) (by omega) (by omega) (by omega) (by omega) (by omega) (by omega) (b2.trans ((b3.mono (by omega)).trans (b4.mono (by omega)))) k4 q1 q2 (by rw [row_below b4 (by omega), q3]) (by rw [row_below b4 (by omega), row_below b3 (by omega), q4])
end
end Go.Proofs.YtakkicppgkmokaaGreat
