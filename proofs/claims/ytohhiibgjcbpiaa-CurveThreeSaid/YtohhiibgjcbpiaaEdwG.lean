/- The group of Edwards' curve, and the ladder over it. No program in sight. -/
import Derived.Test.YtohhiibgjcbpiaaEdw
set_option linter.unusedSimpArgs false
set_option linter.unusedVariables false
namespace Go.Proofs.Ytohhiibgjcbpiaa
/-- a field, given by its rests, inverses, and a number d that is no square -/
structure Fld (n : Nat) [NeZero n] (d : Fin n) (inv : Fin n → Fin n) : Prop where
  dom : ∀ a b : Fin n, a * b = 0 → a = 0 ∨ b = 0
  mi : ∀ a : Fin n, a ≠ 0 → a * inv a = 1
  inv0 : inv 0 = 0
  one : (1 : Fin n) ≠ 0
  two : (1 : Fin n) + 1 ≠ 0
  nsq : ∀ s : Fin n, s * s ≠ d
structure Pt (n : Nat) where
  x : Fin n
  y : Fin n
section
variable {n : Nat} [NeZero n] {d : Fin n} {inv : Fin n → Fin n}
def On (d : Fin n) (p : Pt n) : Prop := p.x * p.x + p.y * p.y - 1 - d * p.x * p.x * p.y * p.y = 0
def padd (d : Fin n) (inv : Fin n → Fin n) (p q : Pt n) : Pt n :=
  ⟨(p.x * q.y + p.y * q.x) * inv (1 + d * p.x * q.x * p.y * q.y), (p.y * q.y - p.x * q.x) * inv (1 - d * p.x * q.x * p.y * q.y)⟩
def pO : Pt n := ⟨0, 1⟩
def pneg (p : Pt n) : Pt n := ⟨0 - p.x, p.y⟩
theorem Fld.cancel (F : Fld n d inv) {a b c : Fin n} (ha : a ≠ 0) (h : a * b = a * c) : b = c := by
  have h1 : a * (b - c) = 0 := by grind
  rcases F.dom _ _ h1 with h2 | h2
  · exact absurd h2 ha
  · grind
theorem Fld.ne (F : Fld n d inv) {a b : Fin n} (ha : a ≠ 0) (hb : b ≠ 0) : a * b ≠ 0 := fun h => by
  rcases F.dom _ _ h with h2 | h2
  · exact ha h2
  · exact hb h2
/-- a product with an inverse, taken away -/
theorem Fld.frac (F : Fld n d inv) {a b : Fin n} (ha : a ≠ 0) : b * inv a * a = b := by
  have h1 := F.mi a ha
  have h2 : b * inv a * a = b * (a * inv a) := by grind
  rw [h2, h1]
  grind
theorem Fld.eq_frac (F : Fld n d inv) {a b c : Fin n} (ha : a ≠ 0) (h : c * a = b) : b * inv a = c := by
  refine F.cancel ha ?_
  have := F.frac (b := b) ha
  grind
/-- no denominator is 0 -/
theorem Fld.whole (F : Fld n d inv) {p q : Pt n} (hp : On d p) (hq : On d q) :
    1 + d * p.x * q.x * p.y * q.y ≠ 0 ∧ 1 - d * p.x * q.x * p.y * q.y ≠ 0 := by
  obtain ⟨x1, y1⟩ := p
  obtain ⟨x2, y2⟩ := q
  simp only [On] at hp hq
  dsimp only
  have key : ∀ e : Fin n, e = d * x1 * x2 * y1 * y2 → e * e = 1 → False := by
    intro e he h1
    have hs : ∀ g : Fin n, g = y2 ∨ g = 0 - y2 → x1 * y1 * (x2 + g) = 0 := by
      intro g hg
      apply Classical.byContradiction
      intro hne
      have h2 : ∃ s : Fin n, s * s = d * ((x1 * y1 * (x2 + g)) * (x1 * y1 * (x2 + g))) := by
        rcases hg with hg | hg
        · rw [hg]
          refine ⟨x1 + e * y1, ?_⟩
          have k1 : (x1 + e * y1) * (x1 + e * y1) - d * ((x1 * y1 * (x2 + y2)) * (x1 * y1 * (x2 + y2))) = 1 * (x1*x1 + y1*y1 - 1 - d*x1*x1*y1*y1) + (0 - d * x1 * x1 * y1 * y1) * (x2*x2 + y2*y2 - 1 - d*x2*x2*y2*y2) + (y1 * y1) * (e * e - 1) + (e * e - (d*x1*x2*y1*y2) * (d*x1*x2*y1*y2)) * 0 + 2 * x1 * y1 * (e - d*x1*x2*y1*y2) + 1 - d*x1*x2*y1*y2*(d*x1*x2*y1*y2) := by grind
          have k2 : (x1 + e * y1) * (x1 + e * y1) - d * ((x1 * y1 * (x2 + y2)) * (x1 * y1 * (x2 + y2))) = 0 := by
            rw [k1, hp, hq, ← he, h1]
            grind
          grind
        · rw [hg]
          refine ⟨x1 - e * y1, ?_⟩
          have k1 : (x1 - e * y1) * (x1 - e * y1) - d * ((x1 * y1 * (x2 + (0 - y2))) * (x1 * y1 * (x2 + (0 - y2)))) = 1 * (x1*x1 + y1*y1 - 1 - d*x1*x1*y1*y1) + (0 - d * x1 * x1 * y1 * y1) * (x2*x2 + y2*y2 - 1 - d*x2*x2*y2*y2) + (y1 * y1) * (e * e - 1) - 2 * x1 * y1 * (e - d*x1*x2*y1*y2) + 1 - d*x1*x2*y1*y2*(d*x1*x2*y1*y2) := by grind
          have k2 : (x1 - e * y1) * (x1 - e * y1) - d * ((x1 * y1 * (x2 + (0 - y2))) * (x1 * y1 * (x2 + (0 - y2)))) = 0 := by
            rw [k1, hp, hq, ← he, h1]
            grind
          grind
      obtain ⟨s, hs⟩ := h2
      generalize x1 * y1 * (x2 + g) = t at hne hs
      refine F.nsq (s * inv t) ?_
      have h3 := F.mi t hne
      have h4 : s * inv t * (s * inv t) = (s * s) * (inv t * inv t) := by grind
      rw [h4, hs]
      have h5 : d * (t * t) * (inv t * inv t) = d * ((t * inv t) * (t * inv t)) := by grind
      rw [h5, h3]
      grind
    have a1 := hs y2 (.inl rfl)
    have a2 := hs (0 - y2) (.inr rfl)
    have a3 : (1 + 1) * (x1 * y1 * x2) = 0 := by grind
    have a4 : x1 * y1 * x2 = 0 := by
      rcases F.dom _ _ a3 with h | h
      · exact absurd h F.two
      · exact h
    have a5 : e = 0 := by
      have : e = d * (x1 * y1 * x2) * y2 := by grind
      rw [this, a4]
      grind
    rw [a5] at h1
    exact F.one (by grind)
  constructor
  · intro h
    exact key _ rfl (by grind)
  · intro h
    exact key _ rfl (by grind)
theorem on_O : On d (pO : Pt n) := by
  simp only [On, pO]
  grind
theorem on_neg {p : Pt n} (hp : On d p) : On d (pneg p) := by
  simp only [On, pneg] at *
  grind
theorem Fld.on_add (F : Fld n d inv) {p q : Pt n} (hp : On d p) (hq : On d q) : On d (padd d inv p q) := by
  obtain ⟨h1, h2⟩ := F.whole hp hq
  obtain ⟨x1, y1⟩ := p
  obtain ⟨x2, y2⟩ := q
  simp only [On, padd] at *
  have hr := rclo d x1 y1 x2 y2 hp hq
  generalize hN1 : x1 * y2 + y1 * x2 = N1 at *
  generalize hN2 : y1 * y2 - x1 * x2 = N2 at *
  generalize hD1 : 1 + d * x1 * x2 * y1 * y2 = D1 at *
  generalize hD2 : 1 - d * x1 * x2 * y1 * y2 = D2 at *
  have f1 := F.frac (b := N1) h1
  have f2 := F.frac (b := N2) h2
  generalize N1 * inv D1 = X at *
  generalize N2 * inv D2 = Y at *
  have hne := F.ne (F.ne h1 h1) (F.ne h2 h2)
  refine (F.dom _ _ ?_).resolve_left hne
  have e1 : N1 * N1 = X * X * (D1 * D1) := by rw [← f1]; grind
  have e2 : N2 * N2 = Y * Y * (D2 * D2) := by rw [← f2]; grind
  rw [e1, e2] at hr
  clear e1 e2 f1 f2 hN1 hN2 hD1 hD2 hp hq h1 h2 hne
  grind
theorem padd_comm (p q : Pt n) : padd d inv p q = padd d inv q p := by
  obtain ⟨x1, y1⟩ := p
  obtain ⟨x2, y2⟩ := q
  simp only [padd]
  have e1 : x1 * y2 + y1 * x2 = x2 * y1 + y2 * x1 := by grind
  have e2 : y1 * y2 - x1 * x2 = y2 * y1 - x2 * x1 := by grind
  have e3 : d * x1 * x2 * y1 * y2 = d * x2 * x1 * y2 * y1 := by grind
  rw [e1, e2, e3]
theorem Fld.inv1 (F : Fld n d inv) : inv 1 = 1 := by
  have := F.mi 1 F.one
  grind
theorem Fld.add_O (F : Fld n d inv) (p : Pt n) : padd d inv p pO = p := by
  obtain ⟨x1, y1⟩ := p
  simp only [padd, pO]
  have e1 : (1 : Fin n) + d * x1 * 0 * y1 * 1 = 1 := by grind
  have e2 : (1 : Fin n) - d * x1 * 0 * y1 * 1 = 1 := by grind
  rw [e1, e2, F.inv1]
  congr 1
  · grind
  · grind
theorem Fld.add_neg (F : Fld n d inv) {p : Pt n} (hp : On d p) : padd d inv p (pneg p) = pO := by
  obtain ⟨h1, h2⟩ := F.whole hp (on_neg hp)
  obtain ⟨x1, y1⟩ := p
  simp only [padd, pO, pneg, On] at *
  congr 1
  · have : x1 * y1 + y1 * (0 - x1) = 0 := by grind
    rw [this]
    grind
  · refine F.eq_frac h2 ?_
    grind
theorem Fld.assoc (F : Fld n d inv) {p q r : Pt n} (hp : On d p) (hq : On d q) (hr : On d r) : padd d inv (padd d inv p q) r = padd d inv p (padd d inv q r) := by
  obtain ⟨g1, g2⟩ := F.whole (F.on_add hp hq) hr
  obtain ⟨g3, g4⟩ := F.whole hp (F.on_add hq hr)
  obtain ⟨h1, h2⟩ := F.whole hp hq
  obtain ⟨h3, h4⟩ := F.whole hq hr
  obtain ⟨x1, y1⟩ := p
  obtain ⟨x2, y2⟩ := q
  obtain ⟨x3, y3⟩ := r
  simp only [padd, On] at *
  have hx := rx d x1 y1 x2 y2 x3 y3 hp hq hr
  have hy := ry d x1 y1 x2 y2 x3 y3 hp hq hr
  clear hp hq hr
  have c1 : d * x2 * x3 * y2 * y3 = d * x2 * x3 * y2 * y3 := rfl
  generalize hN1 : x1 * y2 + y1 * x2 = N1 at *
  generalize hN2 : y1 * y2 - x1 * x2 = N2 at *
  generalize hD1 : 1 + d * x1 * x2 * y1 * y2 = D1 at *
  generalize hD2 : 1 - d * x1 * x2 * y1 * y2 = D2 at *
  generalize hM1 : x2 * y3 + y2 * x3 = M1 at *
  generalize hM2 : y2 * y3 - x2 * x3 = M2 at *
  generalize hE1 : 1 + d * x2 * x3 * y2 * y3 = E1 at *
  generalize hE2 : 1 - d * x2 * x3 * y2 * y3 = E2 at *
  clear hN1 hN2 hD1 hD2 hM1 hM2 hE1 hE2
  have f1 := F.frac (b := N1) h1
  have f2 := F.frac (b := N2) h2
  have f3 := F.frac (b := M1) h3
  have f4 := F.frac (b := M2) h4
  generalize N1 * inv D1 = X at *
  generalize N2 * inv D2 = Y at *
  generalize M1 * inv E1 = S at *
  generalize M2 * inv E2 = T at *
  rw [← f1, ← f2, ← f3, ← f4] at hx hy
  have nD : D1 * D2 * (E1 * E2) ≠ 0 := F.ne (F.ne h1 h2) (F.ne h3 h4)
  have kx : (X * y3 + Y * x3) * (1 + d * x1 * S * y1 * T) = (x1 * T + y1 * S) * (1 + d * X * x3 * Y * y3) := by
    refine F.cancel nD ?_
    clear hy h1 h2 h3 h4 g1 g2 g3 g4 f1 f2 f3 f4 nD
    grind
  have ky : (Y * y3 - X * x3) * (1 - d * x1 * S * y1 * T) = (y1 * T - x1 * S) * (1 - d * X * x3 * Y * y3) := by
    refine F.cancel nD ?_
    clear hx h1 h2 h3 h4 g1 g2 g3 g4 f1 f2 f3 f4 nD kx
    grind
  have side : ∀ a b u v : Fin n, u ≠ 0 → v ≠ 0 → a * v = b * u → a * inv u = b * inv v := by
    intro a b u v hu hv h
    refine F.eq_frac hu ?_
    refine F.cancel hv ?_
    have := F.frac (b := b) hv
    grind
  congr 1
  · exact side _ _ _ _ g1 g3 kx
  · exact side _ _ _ _ g2 g4 ky
end
end Go.Proofs.Ytohhiibgjcbpiaa
