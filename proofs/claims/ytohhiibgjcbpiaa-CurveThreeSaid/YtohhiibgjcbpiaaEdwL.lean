/- Multiples of a point of Edwards' curve, and the ladder over them. No program in sight. -/
import Derived.Test.YtohhiibgjcbpiaaEdwG
set_option linter.unusedSimpArgs false
set_option linter.unusedVariables false
namespace Go.Proofs.Ytohhiibgjcbpiaa
section
variable {n : Nat} [NeZero n] {d : Fin n} {inv : Fin n → Fin n}
def pmul (d : Fin n) (inv : Fin n → Fin n) (p : Pt n) : Nat → Pt n
  | 0 => pO
  | k + 1 => padd d inv (pmul d inv p k) p
theorem Fld.on_pmul (F : Fld n d inv) {p : Pt n} (hp : On d p) : ∀ k, On d (pmul d inv p k)
  | 0 => on_O
  | k + 1 => F.on_add (F.on_pmul hp k) hp
theorem Fld.O_add (F : Fld n d inv) (p : Pt n) : padd d inv pO p = p := by rw [padd_comm, F.add_O]
theorem Fld.pmul_add (F : Fld n d inv) {p : Pt n} (hp : On d p) (i : Nat) : ∀ j, pmul d inv p (i + j) = padd d inv (pmul d inv p i) (pmul d inv p j)
  | 0 => by rw [Nat.add_zero, pmul, F.add_O]
  | j + 1 => by
    rw [← Nat.add_assoc, pmul, F.pmul_add hp i j, pmul, F.assoc (F.on_pmul hp i) (F.on_pmul hp j) hp]
theorem Fld.pmul_mul (F : Fld n d inv) {p : Pt n} (hp : On d p) (i : Nat) : ∀ j, pmul d inv p (i * j) = pmul d inv (pmul d inv p i) j
  | 0 => by rw [Nat.mul_zero, pmul, pmul]
  | j + 1 => by rw [Nat.mul_succ, F.pmul_add hp, F.pmul_mul hp i j, pmul]
theorem Fld.pmul_O (F : Fld n d inv) : ∀ k, pmul d inv (pO : Pt n) k = pO
  | 0 => rfl
  | k + 1 => by rw [pmul, F.add_O, F.pmul_O k]
/-- a pair stands for a point's place -/
def Rep (x z : Fin n) (p : Pt n) : Prop := x * (1 - p.y) = z * (1 + p.y) ∧ ¬ (x = 0 ∧ z = 0)
def Uof (inv : Fin n → Fin n) (p : Pt n) : Fin n := (1 + p.y) * inv (1 - p.y)
theorem Fld.half (F : Fld n d inv) {a : Fin n} (h : a + a = 0) : a = 0 := by
  have h1 : (1 + 1) * a = 0 := by grind
  exact (F.dom _ _ h1).resolve_left F.two
theorem Fld.rep_u (F : Fld n d inv) {x z : Fin n} {p : Pt n} (h : Rep x z p) : x * inv z = Uof inv p := by
  obtain ⟨h1, h2⟩ := h
  obtain ⟨px, y⟩ := p
  simp only [Uof] at *
  by_cases h3 : 1 - y = 0
  · have h4 : (1 + 1) * z = 0 := by grind
    have h5 := (F.dom _ _ h4).resolve_left F.two
    rw [h3, h5, F.inv0]
    grind
  · have h4 : z ≠ 0 := fun h4 => h2 ⟨(F.dom _ _ (show x * (1 - y) = 0 by rw [h1, h4]; grind)).resolve_right h3, h4⟩
    refine F.eq_frac h4 ?_
    refine F.cancel h3 ?_
    have := F.frac (b := 1 + y) h3
    grind
theorem Fld.u_rep (F : Fld n d inv) {p : Pt n} (h : Uof inv p ≠ 0) : Rep (Uof inv p) 1 p := by
  obtain ⟨px, y⟩ := p
  simp only [Uof, Rep] at *
  by_cases h3 : 1 - y = 0
  · exact absurd (by rw [h3, F.inv0]; grind) h
  · refine ⟨?_, fun h4 => F.one h4.2⟩
    have := F.frac (b := 1 + y) h3
    grind
structure LadE (n : Nat) where
  x : Fin n
  z : Fin n
  w : Fin n
  t : Fin n
def LadE.step (c : Fin n) (s : LadE n) (u : Fin n) : LadE n :=
  ⟨((s.x + s.z) * (s.x + s.z)) * ((s.x - s.z) * (s.x - s.z)), ((s.x + s.z) * (s.x + s.z) - (s.x - s.z) * (s.x - s.z)) * ((s.x + s.z) * (s.x + s.z) + c * ((s.x + s.z) * (s.x + s.z) - (s.x - s.z) * (s.x - s.z))),
   ((s.w - s.t) * (s.x + s.z) + (s.w + s.t) * (s.x - s.z)) * ((s.w - s.t) * (s.x + s.z) + (s.w + s.t) * (s.x - s.z)),
   u * (((s.w - s.t) * (s.x + s.z) - (s.w + s.t) * (s.x - s.z)) * ((s.w - s.t) * (s.x + s.z) - (s.w + s.t) * (s.x - s.z)))⟩
def LadE.swap (s : LadE n) : LadE n := ⟨s.w, s.t, s.x, s.z⟩
/-- what a pair's sum and difference are -/
theorem Fld.rep_sum (F : Fld n d inv) {x z : Fin n} {p : Pt n} (h : Rep x z p) : x + z ≠ 0 ∧ x - z = (x + z) * p.y := by
  obtain ⟨h1, h2⟩ := h
  obtain ⟨px, y⟩ := p
  dsimp only at *
  have h3 : x - z = (x + z) * y := by grind
  refine ⟨fun h => ?_, h3⟩
  rw [h] at h3
  have h4 : x = 0 := F.half (by grind)
  exact h2 ⟨h4, by grind⟩
theorem Fld.dbl (F : Fld n d inv) {c : Fin n} (hc : d * (1 + c) = c) (hc2 : 1 + c ≠ 0) {x z : Fin n} {p : Pt n} (hp : On d p) (h : Rep x z p) :
    Rep (((x + z) * (x + z)) * ((x - z) * (x - z))) (((x + z) * (x + z) - (x - z) * (x - z)) * ((x + z) * (x + z) + c * ((x + z) * (x + z) - (x - z) * (x - z)))) (padd d inv p p) := by
  obtain ⟨s0, h1⟩ := F.rep_sum h
  obtain ⟨g1, g2⟩ := F.whole hp hp
  obtain ⟨px, y⟩ := p
  simp only [Rep, padd, On] at *
  rw [h1]
  generalize x + z = s at *
  have f1 := F.frac (b := y * y - px * px) g2
  generalize (y * y - px * px) * inv (1 - d * px * px * y * y) = Y at *
  clear h1 h
  constructor
  · refine F.cancel g2 ?_
    have k : (1 - d * px * px * y * y) * (s * s * (s * y * (s * y)) * (1 - Y)) - (1 - d * px * px * y * y) * ((s * s - s * y * (s * y)) * (s * s + c * (s * s - s * y * (s * y))) * (1 + Y)) =
        s * s * (s * s) * (y * y * ((1 - d * px * px * y * y) - (Y * (1 - d * px * px * y * y))) - (1 - y * y) * (1 + c * (1 - y * y)) * ((1 - d * px * px * y * y) + Y * (1 - d * px * px * y * y))) := by grind
    rw [f1] at k
    have e1 : (1 - d * px * px * y * y) = 2 - px * px - y * y := by grind
    have e2 : (1 + c) * (px * px + y * y - 1) - c * px * px * y * y = 0 := by
      have : (1 + c) * (px * px + y * y - 1 - d * px * px * y * y) = 0 := by rw [hp]; grind
      have e3 : (1 + c) * (px * px + y * y - 1 - d * px * px * y * y) = (1 + c) * (px * px + y * y - 1) - (d * (1 + c)) * px * px * y * y := by grind
      rw [e3, hc] at this
      exact this
    have e4 : y * y * ((1 - d * px * px * y * y) - (y * y - px * px)) - (1 - y * y) * (1 + c * (1 - y * y)) * ((1 - d * px * px * y * y) + (y * y - px * px)) = 2 * (1 - y * y) * ((1 + c) * (px * px + y * y - 1) - c * px * px * y * y) := by
      rw [e1]
      clear k e1 e2 f1 hp hc g1 g2
      grind
    rw [e4, e2] at k
    clear e1 e2 e4 f1 hp hc g1 g2
    grind
  · rintro ⟨k1, k2⟩
    have hy : y = 0 := by
      have k3 : s * s * (s * s) * (y * y) = 0 := by rw [← k1]; grind
      have k4 := (F.dom _ _ k3).resolve_left (F.ne (F.ne s0 s0) (F.ne s0 s0))
      rcases F.dom _ _ k4 with h | h <;> exact h
    rw [hy] at k2
    have k3 : s * s * (s * s) * (1 + c) = 0 := by rw [← k2]; grind
    exact F.ne (F.ne (F.ne s0 s0) (F.ne s0 s0)) hc2 k3
theorem dadd_a (u y : Fin n) (h : u * (1 - y) = 1 * (1 + y)) (h2 : 1 - y = 0) : (1 + 1 : Fin n) = 0 := by
  rw [h2] at h
  grind
theorem dadd_b (r s y1 y2 : Fin n) : (r * s) * (r * s) * ((y1 + y2) * (y1 + y2)) = (r * y2 * s + r * (s * y1)) * (r * y2 * s + r * (s * y1)) := by grind
theorem dadd_c (u r s y1 y2 : Fin n) : u * ((r * s) * (r * s)) * ((y2 - y1) * (y2 - y1)) = u * ((r * y2 * s - r * (s * y1)) * (r * y2 * s - r * (s * y1))) := by grind
/-- of two points whose difference is known, the sum -/
theorem Fld.dadd (F : Fld n d inv) {x z w t u : Fin n} {a b p : Pt n} (ha : On d a) (hb : On d b) (hp : On d p) (hy : p.y = (a.y * b.y + a.x * b.x) * inv (1 + d * a.x * b.x * a.y * b.y))
    (hr : Rep x z a) (hs : Rep w t b) (hu : Rep u 1 p) (u0 : u ≠ 0) :
    Rep (((w - t) * (x + z) + (w + t) * (x - z)) * ((w - t) * (x + z) + (w + t) * (x - z))) (u * (((w - t) * (x + z) - (w + t) * (x - z)) * ((w - t) * (x + z) - (w + t) * (x - z)))) (padd d inv a b) := by
  obtain ⟨s0, h1⟩ := F.rep_sum hr
  obtain ⟨r0, h2⟩ := F.rep_sum hs
  obtain ⟨g1, g2⟩ := F.whole ha hb
  obtain ⟨hu1, _⟩ := hu
  obtain ⟨x1, y1⟩ := a
  obtain ⟨x2, y2⟩ := b
  obtain ⟨x3, y3⟩ := p
  simp only [Rep, padd, On] at *
  rw [h1, h2]
  clear hr hs h1 h2
  generalize x + z = s at *
  generalize w + t = r at *
  have hd := rdad d x1 y1 x2 y2 ha hb
  have f1 := F.frac (b := y1 * y2 - x1 * x2) g2
  have f2 := F.frac (b := y1 * y2 + x1 * x2) g1
  rw [← hy] at f2
  generalize (y1 * y2 - x1 * x2) * inv (1 - d * x1 * x2 * y1 * y2) = Y at *
  have n3 : 1 - y3 ≠ 0 := fun h => F.two (dadd_a u y3 hu1 h)
  have m : (y1 + y2) * (y1 + y2) * (1 - Y) * (1 - y3) = (1 + Y) * (1 + y3) * ((y1 - y2) * (y1 - y2)) := by
    refine F.cancel (F.ne g1 g2) ?_
    rw [← f1, ← f2] at hd
    clear f1 f2 ha hb hp hy hu1 g1 g2 n3
    grind
  constructor
  · refine F.cancel n3 ?_
    have k1 : (1 - y3) * ((r * y2 * s + r * (s * y1)) * (r * y2 * s + r * (s * y1)) * (1 - Y)) = (r * r) * (s * s) * ((y1 + y2) * (y1 + y2) * (1 - Y) * (1 - y3)) := by grind
    have k2 : (1 - y3) * (u * ((r * y2 * s - r * (s * y1)) * (r * y2 * s - r * (s * y1))) * (1 + Y)) = (r * r) * (s * s) * ((1 + Y) * (u * (1 - y3)) * ((y1 - y2) * (y1 - y2))) := by grind
    rw [k1, k2, m, hu1]
    grind
  · rintro ⟨k1, k2⟩
    have rs := F.ne r0 s0
    have l1 : y1 + y2 = 0 := by
      have : (r * s) * (r * s) * ((y1 + y2) * (y1 + y2)) = 0 := (dadd_b r s y1 y2).trans k1
      have := (F.dom _ _ this).resolve_left (F.ne rs rs)
      rcases F.dom _ _ this with h | h <;> exact h
    have l2 : y2 - y1 = 0 := by
      have : u * ((r * s) * (r * s)) * ((y2 - y1) * (y2 - y1)) = 0 := (dadd_c u r s y1 y2).trans k2
      have := (F.dom _ _ this).resolve_left (F.ne u0 (F.ne rs rs))
      rcases F.dom _ _ this with h | h <;> exact h
    have l3 : y1 = 0 := F.half (by grind)
    have l4 : y2 = 0 := by grind
    subst l3 l4
    have m1 : x1 * x1 = 1 := by grind
    have m2 : x2 * x2 = 1 := by grind
    have m3 : y3 = x1 * x2 := by grind
    have m4 : (1 - y3) * (1 + y3) = 0 := by
      have : (1 - y3) * (1 + y3) = 1 - y3 * y3 := by grind
      have : y3 * y3 = (x1 * x1) * (x2 * x2) := by rw [m3]; grind
      grind
    have m5 := (F.dom _ _ m4).resolve_left n3
    rw [m5] at hu1
    have : u * (1 - y3) = 0 := by rw [hu1]; grind
    exact F.ne u0 n3 this
/-- the difference of multiples that follow each other -/
theorem Fld.diff (F : Fld n d inv) {p : Pt n} (hp : On d p) (m : Nat) :
    p.y = ((pmul d inv p m).y * (pmul d inv p (m + 1)).y + (pmul d inv p m).x * (pmul d inv p (m + 1)).x) * inv (1 + d * (pmul d inv p m).x * (pmul d inv p (m + 1)).x * (pmul d inv p m).y * (pmul d inv p (m + 1)).y) := by
  have hA := F.on_pmul hp m
  have h : padd d inv (pmul d inv p (m + 1)) (pneg (pmul d inv p m)) = p := by
    rw [pmul, padd_comm (pmul d inv p m) p, F.assoc hp hA (on_neg hA), F.add_neg hA, F.add_O]
  have h2 := congrArg Pt.y h
  generalize pmul d inv p m = A at *
  generalize pmul d inv p (m + 1) = B at *
  obtain ⟨x1, y1⟩ := A
  obtain ⟨x2, y2⟩ := B
  simp only [padd, pneg] at *
  rw [← h2]
  congr 1
  · grind
  · congr 1
    grind
/-- the ladder's state stands for two multiples that follow each other -/
def LadE.Is (d : Fin n) (inv : Fin n → Fin n) (p : Pt n) (s : LadE n) (m : Nat) : Prop := Rep s.x s.z (pmul d inv p m) ∧ Rep s.w s.t (pmul d inv p (m + 1))
theorem Fld.lad0 (F : Fld n d inv) {p : Pt n} {u : Fin n} (hu : Rep u 1 p) : (⟨1, 0, u, 1⟩ : LadE n).Is d inv p 0 := by
  refine ⟨?_, ?_⟩
  · simp only [pmul, Rep, pO]
    refine ⟨by grind, fun h => F.one h.1⟩
  · simp only [pmul]
    rw [F.O_add]
    exact hu
theorem Fld.lad1 (F : Fld n d inv) {c : Fin n} (hc : d * (1 + c) = c) (hc2 : 1 + c ≠ 0) {p : Pt n} {u : Fin n} (hp : On d p) (hu : Rep u 1 p) (u0 : u ≠ 0) {s : LadE n} {m : Nat} (h : s.Is d inv p m) :
    (s.step c u).Is d inv p (2 * m) ∧ ((s.swap.step c u).swap).Is d inv p (2 * m + 1) := by
  obtain ⟨h1, h2⟩ := h
  have hA := F.on_pmul hp m
  have hB := F.on_pmul hp (m + 1)
  have d1 := F.diff hp m
  have d2 : p.y = ((pmul d inv p (m + 1)).y * (pmul d inv p m).y + (pmul d inv p (m + 1)).x * (pmul d inv p m).x) * inv (1 + d * (pmul d inv p (m + 1)).x * (pmul d inv p m).x * (pmul d inv p (m + 1)).y * (pmul d inv p m).y) := by
    generalize pmul d inv p m = A at *
    generalize pmul d inv p (m + 1) = B at *
    rw [d1]
    have e1 : A.y * B.y + A.x * B.x = B.y * A.y + B.x * A.x := by grind
    have e2 : d * A.x * B.x * A.y * B.y = d * B.x * A.x * B.y * A.y := by grind
    rw [e1, e2]
  have e1 : pmul d inv p (2 * m) = padd d inv (pmul d inv p m) (pmul d inv p m) := by rw [← F.pmul_add hp]; congr 1; omega
  have e2 : pmul d inv p (2 * m + 1) = padd d inv (pmul d inv p m) (pmul d inv p (m + 1)) := by rw [← F.pmul_add hp]; congr 1; omega
  have e3 : pmul d inv p (2 * m + 1 + 1) = padd d inv (pmul d inv p (m + 1)) (pmul d inv p (m + 1)) := by rw [← F.pmul_add hp]; congr 1; omega
  refine ⟨⟨?_, ?_⟩, ?_, ?_⟩
  · rw [e1]
    exact F.dbl hc hc2 hA h1
  · rw [e2]
    exact F.dadd hA hB hp d1 h1 h2 hu u0
  · rw [e2, padd_comm]
    exact F.dadd hB hA hp d2 h2 h1 hu u0
  · rw [e3]
    exact F.dbl hc hc2 hB h2
/-- of a point whose place is 0, an even multiple's place is 0 -/
theorem Fld.even0 (F : Fld n d inv) (d1 : 1 - d ≠ 0) {p : Pt n} (hp : On d p) (h : Uof inv p = 0) (m : Nat) : Uof inv (pmul d inv p (2 * m)) = 0 := by
  have hy : p.y * p.y = 1 := by
    by_cases h3 : 1 - p.y = 0
    · grind
    · have h4 := F.frac (b := 1 + p.y) h3
      have h5 : (1 + p.y) * inv (1 - p.y) = 0 := h
      rw [h5] at h4
      grind
  have hx : p.x = 0 := by
    have h1 : (1 - d) * (p.x * p.x) = 0 := by
      simp only [On] at hp
      grind
    have h2 := (F.dom _ _ h1).resolve_left d1
    rcases F.dom _ _ h2 with h | h <;> exact h
  have h2 : pmul d inv p 2 = pO := by
    rw [pmul, pmul, pmul, F.O_add]
    obtain ⟨x, y⟩ := p
    dsimp only at *
    subst hx
    simp only [padd, pO]
    have e1 : (1 : Fin n) - d * 0 * 0 * y * y = 1 := by grind
    have e2 : y * y - 0 * 0 = 1 := by grind
    have e3 : 0 * y + y * 0 = (0 : Fin n) := by grind
    rw [e1, e2, e3, F.inv1]
    congr 1
    · grind
    · grind
  rw [F.pmul_mul hp, h2, F.pmul_O]
  simp only [Uof, pO]
  have e1 : (1 : Fin n) - 1 = 0 := by grind
  rw [e1, F.inv0]
  grind
end
end Go.Proofs.Ytohhiibgjcbpiaa
