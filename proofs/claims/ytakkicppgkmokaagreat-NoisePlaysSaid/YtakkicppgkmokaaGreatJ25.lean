/- Texts of this proof, merged: Edw, EdwG, EdwL. -/
import Derived.Test.YtakkicppgkmokaaGreatJ0
set_option linter.unusedSimpArgs false
set_option linter.unusedVariables false
namespace Go.Proofs.YtakkicppgkmokaaGreat
section
section
variable {n : Nat} [NeZero n]
theorem lin3 (L R q1 q2 q3 e1 e2 e3 : Fin n) (h : L - R = q1 * e1 + q2 * e2 + q3 * e3) (h1 : e1 = 0) (h2 : e2 = 0) (h3 : e3 = 0) : L = R := by
 subst h1 h2 h3
 grind
theorem rx (d x1 y1 x2 y2 x3 y3 : Fin n) (h1 : x1*x1 + y1*y1 - 1 - d*x1*x1*y1*y1 = 0) (h2 : x2*x2 + y2*y2 - 1 - d*x2*x2*y2*y2 = 0) (h3 : x3*x3 + y3*y3 - 1 - d*x3*x3*y3*y3 = 0) :
  ((x1*y2+y1*x2)*(1-d*x1*x2*y1*y2)*y3+(y1*y2-x1*x2)*(1+d*x1*x2*y1*y2)*x3)*((1+d*x2*x3*y2*y3)*(1-d*x2*x3*y2*y3)+d*x1*y1*(x2*y3+y2*x3)*(y2*y3-x2*x3)) =
  (x1*(y2*y3-x2*x3)*(1+d*x2*x3*y2*y3)+y1*(x2*y3+y2*x3)*(1-d*x2*x3*y2*y3))*((1+d*x1*x2*y1*y2)*(1-d*x1*x2*y1*y2)+d*(x1*y2+y1*x2)*(y1*y2-x1*x2)*x3*y3) := by
 refine lin3 _ _ (0 + d*d*x1*x2*x2*x2*x2*y2*y2*y2*x3*x3*y3 - d*d*x1*x2*x2*x2*y2*y2*y2*y2*x3*y3*y3 + d*d*y1*x2*x2*x2*x2*y2*y2*y2*x3*y3*y3 + d*d*y1*x2*x2*x2*y2*y2*y2*y2*x3*x3*y3 - d*x1*x2*x2*x2*x2*y2*x3*x3*y3 - d*x1*x2*x2*x2*y2*y2*x3*x3*x3 + d*x1*x2*x2*x2*y2*y2*x3 + d*x1*x2*x2*y2*y2*y2*y3*y3*y3 - d*x1*x2*x2*y2*y2*y2*y3 + d*x1*x2*y2*y2*y2*y2*x3*y3*y3 - d*y1*x2*x2*x2*x2*y2*x3*y3*y3 + d*y1*x2*x2*x2*y2*y2*y3*y3*y3 - d*y1*x2*x2*x2*y2*y2*y3 + d*y1*x2*x2*y2*y2*y2*x3*x3*x3 - d*y1*x2*x2*y2*y2*y2*x3 - d*y1*x2*y2*y2*y2*y2*x3*x3*y3) (0 - d*d*x1*x1*y1*x2*x2*y2*x3*x3*x3*y3*y3 - d*d*x1*x1*y1*x2*y2*y2*x3*x3*y3*y3*y3 - d*d*x1*y1*y1*x2*x2*y2*x3*x3*y3*y3*y3 + d*d*x1*y1*y1*x2*y2*y2*x3*x3*x3*y3*y3 + d*x1*x1*x1*x2*x2*y2*x3*x3*y3 - d*x1*x1*x1*x2*y2*y2*x3*y3*y3 + d*x1*x1*x1*x2*x3*x3*x3*y3*y3 - d*x1*x1*x1*y2*x3*x3*y3*y3*y3 + d*x1*x1*y1*x2*x2*y2*x3*y3*y3 + d*x1*x1*y1*x2*y2*y2*x3*x3*y3 - d*x1*x1*y1*x2*x3*x3*y3*y3*y3 - d*x1*x1*y1*y2*x3*x3*x3*y3*y3 + d*x1*y1*y1*x2*x2*y2*x3*x3*y3 - d*x1*y1*y1*x2*y2*y2*x3*y3*y3 + d*x1*y1*y1*x2*x3*x3*x3*y3*y3 - d*x1*y1*y1*y2*x3*x3*y3*y3*y3 - d*x1*x2*x2*y2*x3*x3*y3 + d*x1*x2*y2*y2*x3*y3*y3 - d*x1*x2*x3*x3*x3*y3*y3 + d*x1*y2*x3*x3*y3*y3*y3 + d*y1*y1*y1*x2*x2*y2*x3*y3*y3 + d*y1*y1*y1*x2*y2*y2*x3*x3*y3 - d*y1*y1*y1*x2*x3*x3*y3*y3*y3 - d*y1*y1*y1*y2*x3*x3*x3*y3*y3 - d*y1*x2*x2*y2*x3*y3*y3 - d*y1*x2*y2*y2*x3*x3*y3 + d*y1*x2*x3*x3*y3*y3*y3 + d*y1*y2*x3*x3*x3*y3*y3 - x1*x1*x1*x2*x3*x3*x3 - x1*x1*x1*x2*x3*y3*y3 + x1*x1*x1*x2*x3 + x1*x1*x1*y2*x3*x3*y3 + x1*x1*x1*y2*y3*y3*y3 - x1*x1*x1*y2*y3 + x1*x1*y1*x2*x3*x3*y3 + x1*x1*y1*x2*y3*y3*y3 - x1*x1*y1*x2*y3 + x1*x1*y1*y2*x3*x3*x3 + x1*x1*y1*y2*x3*y3*y3 - x1*x1*y1*y2*x3 - x1*y1*y1*x2*x3*x3*x3 - x1*y1*y1*x2*x3*y3*y3 + x1*y1*y1*x2*x3 + x1*y1*y1*y2*x3*x3*y3 + x1*y1*y1*y2*y3*y3*y3 - x1*y1*y1*y2*y3 + x1*x2*x3*x3*x3 + x1*x2*x3*y3*y3 - x1*x2*x3 - x1*y2*x3*x3*y3 - x1*y2*y3*y3*y3 + x1*y2*y3 + y1*y1*y1*x2*x3*x3*y3 + y1*y1*y1*x2*y3*y3*y3 - y1*y1*y1*x2*y3 + y1*y1*y1*y2*x3*x3*x3 + y1*y1*y1*y2*x3*y3*y3 - y1*y1*y1*y2*x3 - y1*x2*x3*x3*y3 - y1*x2*y3*y3*y3 + y1*x2*y3 - y1*y2*x3*x3*x3 - y1*y2*x3*y3*y3 + y1*y2*x3) (0 + d*x1*x1*y1*x2*x2*y2*x3 + d*x1*x1*y1*x2*y2*y2*y3 + d*x1*y1*y1*x2*x2*y2*y3 - d*x1*y1*y1*x2*y2*y2*x3 + x1*x1*x1*x2*x2*x2*x3 - x1*x1*x1*x2*x2*y2*y3 + x1*x1*x1*x2*y2*y2*x3 - x1*x1*x1*x2*x3 - x1*x1*x1*y2*y2*y2*y3 + x1*x1*x1*y2*y3 - x1*x1*y1*x2*x2*x2*y3 - x1*x1*y1*x2*x2*y2*x3 - x1*x1*y1*x2*y2*y2*y3 + x1*x1*y1*x2*y3 - x1*x1*y1*y2*y2*y2*x3 + x1*x1*y1*y2*x3 + x1*y1*y1*x2*x2*x2*x3 - x1*y1*y1*x2*x2*y2*y3 + x1*y1*y1*x2*y2*y2*x3 - x1*y1*y1*x2*x3 - x1*y1*y1*y2*y2*y2*y3 + x1*y1*y1*y2*y3 - x1*x2*x2*x2*x3 + x1*x2*x2*y2*y3 - x1*x2*y2*y2*x3 + x1*x2*x3 + x1*y2*y2*y2*y3 - x1*y2*y3 - y1*y1*y1*x2*x2*x2*y3 - y1*y1*y1*x2*x2*y2*x3 - y1*y1*y1*x2*y2*y2*y3 + y1*y1*y1*x2*y3 - y1*y1*y1*y2*y2*y2*x3 + y1*y1*y1*y2*x3 + y1*x2*x2*x2*y3 + y1*x2*x2*y2*x3 + y1*x2*y2*y2*y3 - y1*x2*y3 + y1*y2*y2*y2*x3 - y1*y2*x3) _ _ _ ?_ h1 h2 h3
 clear h1 h2 h3
 grind
end
end
section
structure Fld (n : Nat) [NeZero n] (d : Fin n) (inv : Fin n → Fin n) : Prop where
 dom : ∀ a b : Fin n, a * b = 0 → a = 0 ∨ b = 0
 mi : ∀ a : Fin n, a ≠ 0 → a * inv a = 1
 inv0 : inv 0 = 0
 one : (1 : Fin n) ≠ 0
 two : (1 : Fin n) + 1 ≠ 0
 nsq : ∀ s : Fin n, s * s ≠ d
structure Pt (n : Nat) where
 x : Fin n
 y : Fin n
section
variable {n : Nat} [NeZero n] {d : Fin n} {inv : Fin n → Fin n}
def On (d : Fin n) (p : Pt n) : Prop := p.x * p.x + p.y * p.y - 1 - d * p.x * p.x * p.y * p.y = 0
def padd (d : Fin n) (inv : Fin n → Fin n) (p q : Pt n) : Pt n :=
 ⟨(p.x * q.y + p.y * q.x) * inv (1 + d * p.x * q.x * p.y * q.y), (p.y * q.y - p.x * q.x) * inv (1 - d * p.x * q.x * p.y * q.y)⟩
def pO : Pt n := ⟨0, 1⟩
theorem Fld.ne (F : Fld n d inv) {a b : Fin n} (ha : a ≠ 0) (hb : b ≠ 0) : a * b ≠ 0 := fun h => by
 rcases F.dom _ _ h with h2 | h2
 ·
  exact ha h2
 ·
  exact hb h2
theorem Fld.whole (F : Fld n d inv) {p q : Pt n} (hp : On d p) (hq : On d q) :
  1 + d * p.x * q.x * p.y * q.y ≠ 0 ∧ 1 - d * p.x * q.x * p.y * q.y ≠ 0 := by
 obtain ⟨x1, y1⟩ := p
 obtain ⟨x2, y2⟩ := q
 simp only [On] at hp hq
 dsimp only
 have key : ∀ e : Fin n, e = d * x1 * x2 * y1 * y2 → e * e = 1 → False := by
  intro e he h1
  have hs : ∀ g : Fin n, g = y2 ∨ g = 0 - y2 → x1 * y1 * (x2 + g) = 0 := by
   intro g hg
   apply Classical.byContradiction
   intro hne
   have h2 : ∃ s : Fin n, s * s = d * ((x1 * y1 * (x2 + g)) * (x1 * y1 * (x2 + g))) := by
    rcases hg with hg | hg
    ·
     rw [hg]
     refine ⟨x1 + e * y1, ?_⟩
     have k1 : (x1 + e * y1) * (x1 + e * y1) - d * ((x1 * y1 * (x2 + y2)) * (x1 * y1 * (x2 + y2))) = 1 * (x1*x1 + y1*y1 - 1 - d*x1*x1*y1*y1) + (0 - d * x1 * x1 * y1 * y1) * (x2*x2 + y2*y2 - 1 - d*x2*x2*y2*y2) + (y1 * y1) * (e * e - 1) + (e * e - (d*x1*x2*y1*y2) * (d*x1*x2*y1*y2)) * 0 + 2 * x1 * y1 * (e - d*x1*x2*y1*y2) + 1 - d*x1*x2*y1*y2*(d*x1*x2*y1*y2) := by grind
     have k2 : (x1 + e * y1) * (x1 + e * y1) - d * ((x1 * y1 * (x2 + y2)) * (x1 * y1 * (x2 + y2))) = 0 := by
      rw [k1, hp, hq, ← he, h1]
      grind
     grind
    ·
     rw [hg]
     refine ⟨x1 - e * y1, ?_⟩
     have k1 : (x1 - e * y1) * (x1 - e * y1) - d * ((x1 * y1 * (x2 + (0 - y2))) * (x1 * y1 * (x2 + (0 - y2)))) = 1 * (x1*x1 + y1*y1 - 1 - d*x1*x1*y1*y1) + (0 - d * x1 * x1 * y1 * y1) * (x2*x2 + y2*y2 - 1 - d*x2*x2*y2*y2) + (y1 * y1) * (e * e - 1) - 2 * x1 * y1 * (e - d*x1*x2*y1*y2) + 1 - d*x1*x2*y1*y2*(d*x1*x2*y1*y2) := by grind
     have k2 : (x1 - e * y1) * (x1 - e * y1) - d * ((x1 * y1 * (x2 + (0 - y2))) * (x1 * y1 * (x2 + (0 - y2)))) = 0 := by
      rw [k1, hp, hq, ← he, h1]
      grind
     grind
   obtain ⟨s, hs⟩ := h2
   generalize x1 * y1 * (x2 + g) = t at hne hs
   refine F.nsq (s * inv t) ?_
   have h3 := F.mi t hne
   have h4 : s * inv t * (s * inv t) = (s * s) * (inv t * inv t) := by grind
   rw [h4, hs]
   have h5 : d * (t * t) * (inv t * inv t) = d * ((t * inv t) * (t * inv t)) := by grind
   rw [h5, h3]
   grind
  have a1 := hs y2 (.inl rfl)
  have a2 := hs (0 - y2) (.inr rfl)
  have a3 : (1 + 1) * (x1 * y1 * x2) = 0 := by grind
  have a4 : x1 * y1 * x2 = 0 := by
   rcases F.dom _ _ a3 with h | h
   ·
    exact absurd h F.two
   ·
    exact h
  have a5 : e = 0 := by
   have : e = d * (x1 * y1 * x2) * y2 := by grind
   rw [this, a4]
   grind
  rw [a5] at h1
  exact F.one (by grind)
 constructor
 ·
  intro h
  exact key _ rfl (by grind)
 ·
  intro h
  exact key _ rfl (by grind)
theorem padd_comm (p q : Pt n) : padd d inv p q = padd d inv q p := by
 obtain ⟨x1, y1⟩ := p
 obtain ⟨x2, y2⟩ := q
 simp only [padd]
 have e1 : x1 * y2 + y1 * x2 = x2 * y1 + y2 * x1 := by grind
 have e2 : y1 * y2 - x1 * x2 = y2 * y1 - x2 * x1 := by grind
 have e3 : d * x1 * x2 * y1 * y2 = d * x2 * x1 * y2 * y1 := by grind
 rw [e1, e2, e3]
theorem Fld.inv1 (F : Fld n d inv) : inv 1 = 1 := by
 have := F.mi 1 F.one
 grind
theorem Fld.add_O (F : Fld n d inv) (p : Pt n) : padd d inv p pO = p := by
 obtain ⟨x1, y1⟩ := p
 simp only [padd, pO]
 have e1 : (1 : Fin n) + d * x1 * 0 * y1 * 1 = 1 := by grind
 have e2 : (1 : Fin n) - d * x1 * 0 * y1 * 1 = 1 := by grind
 rw [e1, e2, F.inv1]
 congr 1
 ·
  grind
 ·
  grind
end
end
section
section
variable {n : Nat} [NeZero n] {d : Fin n} {inv : Fin n → Fin n}
def pmul (d : Fin n) (inv : Fin n → Fin n) (p : Pt n) : Nat → Pt n
  | 0 => pO
  | k + 1 => padd d inv (pmul d inv p k) p
theorem Fld.O_add (F : Fld n d inv) (p : Pt n) : padd d inv pO p = p := by rw [padd_comm, F.add_O]
def Rep (x z : Fin n) (p : Pt n) : Prop := x * (1 - p.y) = z * (1 + p.y) ∧ ¬ (x = 0 ∧ z = 0)
structure LadE (n : Nat) where
  x : Fin n
  z : Fin n
  w : Fin n
  t : Fin n
def LadE.step (c : Fin n) (s : LadE n) (u : Fin n) : LadE n :=
  ⟨((s.x + s.z) * (s.x + s.z)) * ((s.x - s.z) * (s.x - s.z)), ((s.x + s.z) * (s.x + s.z) - (s.x - s.z) * (s.x - s.z)) * ((s.x + s.z) * (s.x + s.z) + c * ((s.x + s.z) * (s.x + s.z) - (s.x - s.z) * (s.x - s.z))),
   ((s.w - s.t) * (s.x + s.z) + (s.w + s.t) * (s.x - s.z)) * ((s.w - s.t) * (s.x + s.z) + (s.w + s.t) * (s.x - s.z)),
   u * (((s.w - s.t) * (s.x + s.z) - (s.w + s.t) * (s.x - s.z)) * ((s.w - s.t) * (s.x + s.z) - (s.w + s.t) * (s.x - s.z)))⟩
def LadE.swap (s : LadE n) : LadE n := ⟨s.w, s.t, s.x, s.z⟩
def LadE.Is (d : Fin n) (inv : Fin n → Fin n) (p : Pt n) (s : LadE n) (m : Nat) : Prop := Rep s.x s.z (pmul d inv p m) ∧ Rep s.w s.t (pmul d inv p (m + 1))
theorem Fld.lad0 (F : Fld n d inv) {p : Pt n} {u : Fin n} (hu : Rep u 1 p) : (⟨1, 0, u, 1⟩ : LadE n).Is d inv p 0 := by
  refine ⟨?_, ?_⟩
  · simp only [pmul, Rep, pO]
    refine ⟨by grind, fun h => F.one h.1⟩
  · simp only [pmul]
    rw [F.O_add]
    exact hu
end
end
end Go.Proofs.YtakkicppgkmokaaGreat
