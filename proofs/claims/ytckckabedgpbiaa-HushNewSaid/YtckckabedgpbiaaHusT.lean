/- Package hush: a tick. -/
import Derived.Test.YtckckabedgpbiaaHusL
set_option linter.unusedSimpArgs false
set_option linter.unusedVariables false
set_option maxRecDepth 4000
namespace Go.Proofs.Ytckckabedgpbiaa
open Go.RowKit
theorem fm_congr {α β : Type} {f g : α → Option β} : ∀ {l : List α}, (∀ x ∈ l, f x = g x) → l.filterMap f = l.filterMap g
  | [], _ => rfl
  | x :: l, h => by
    rw [List.filterMap_cons, List.filterMap_cons, h x (by simp), fm_congr fun y hy => h y (by simp [hy])]
/-- no address twice -/
def DistH (m : List HB) : Prop := m.Pairwise fun a b => a.is b.v b.ip = false
def stepH (time : Int) (b : HB) : Option HB := if time ≤ b.age + 1 then none else some ⟨b.v, b.ip, b.mac, b.age + 1⟩
def tickH (time : Int) (m : List HB) : List HB := m.filterMap (stepH time)
theorem HB.is_self (b : HB) : b.is b.v b.ip = true := by simp [HB.is]
theorem HB.is_symm (a b : HB) : a.is b.v b.ip = b.is a.v a.ip := by
  simp only [HB.is]
  rw [Bool.beq_comm (a := b.v), Bool.beq_comm (a := b.ip)]
theorem DistH.one {m : List HB} (h : DistH m) {a b : HB} (ha : a ∈ m) (hb : b ∈ m) (e : a.is b.v b.ip = true) : a = b := by
  induction m with
  | nil => cases ha
  | cons c l ih =>
    rw [DistH, List.pairwise_cons] at h
    rcases List.mem_cons.1 ha with h1 | h1 <;> rcases List.mem_cons.1 hb with h2 | h2
    · rw [h1, h2]
    · have := h.1 b h2
      rw [← h1, e] at this
      cases this
    · have := h.1 a h1
      rw [← h2, HB.is_symm, e] at this
      cases this
    · exact ih h.2 h1 h2
def keyP (f : HB → Option HB) : Prop := ∀ c d, f c = some d → d.v = c.v ∧ d.ip = c.ip
theorem put_fm (f : HB → Option HB) (hf : keyP f) (b b' : HB) (hb : b'.v = b.v ∧ b'.ip = b.ip) (hfb : f b = some b) : ∀ m : List HB, DistH m → b ∈ m →
    putH b' (m.filterMap f) = m.filterMap fun c => if c.is b.v b.ip = true then some b' else f c
  | [], _, h => by cases h
  | c :: l, hd, h => by
    rw [DistH, List.pairwise_cons] at hd
    by_cases hc : c.is b.v b.ip = true
    · have hcb : c = b := by
        rcases List.mem_cons.1 h with e | e
        · exact e.symm
        · have := hd.1 b e
          rw [hc] at this
          cases this
      subst hcb
      have e1 : (c :: l).filterMap f = c :: l.filterMap f := by rw [List.filterMap_cons, hfb]
      have e2 : ((c :: l).filterMap fun d => if d.is c.v c.ip = true then some b' else f d) = b' :: (l.filterMap fun d => if d.is c.v c.ip = true then some b' else f d) := by rw [List.filterMap_cons, if_pos hc]
      rw [e1, e2, putH, hb.1, hb.2, if_pos hc]
      congr 1
      refine fm_congr fun d hd' => ?_
      have h3 := hd.1 d hd'
      rw [HB.is_symm] at h3
      rw [h3]
      rfl
    · have hbl : b ∈ l := by
        rcases List.mem_cons.1 h with e | e
        · subst e
          exact absurd b.is_self hc
        · exact e
      have ih := put_fm f hf b b' hb hfb l hd.2 hbl
      have e2 : ((c :: l).filterMap fun d => if d.is b.v b.ip = true then some b' else f d) = (match f c with | some d => d :: (l.filterMap fun d => if d.is b.v b.ip = true then some b' else f d) | none => (l.filterMap fun d => if d.is b.v b.ip = true then some b' else f d)) := by
        rw [List.filterMap_cons, if_neg hc]
        cases f c <;> rfl
      rw [e2, List.filterMap_cons]
      cases hfc : f c with
      | none => exact ih
      | some d =>
        obtain ⟨k1, k2⟩ := hf c d hfc
        have hdn : ¬ d.is b'.v b'.ip = true := by
          rw [hb.1, hb.2]
          simp only [HB.is, k1, k2]
          exact hc
        simp only [putH]
        rw [if_neg hdn, ih]
theorem del_fm (f : HB → Option HB) (hf : keyP f) (b b' : HB) (hfb : f b = some b') : ∀ m : List HB, DistH m → b ∈ m →
    delH b.v b.ip (m.filterMap f) = m.filterMap fun c => if c.is b.v b.ip = true then none else f c
  | [], _, h => by cases h
  | c :: l, hd, h => by
    rw [DistH, List.pairwise_cons] at hd
    by_cases hc : c.is b.v b.ip = true
    · have hcb : c = b := by
        rcases List.mem_cons.1 h with e | e
        · exact e.symm
        · have := hd.1 b e
          rw [hc] at this
          cases this
      subst hcb
      obtain ⟨k1, k2⟩ := hf c b' hfb
      have hbc : b'.is c.v c.ip = true := by
        simp only [HB.is, k1, k2]
        exact hc
      have e1 : (c :: l).filterMap f = b' :: l.filterMap f := by rw [List.filterMap_cons, hfb]
      have e2 : ((c :: l).filterMap fun d => if d.is c.v c.ip = true then none else f d) = (l.filterMap fun d => if d.is c.v c.ip = true then none else f d) := by rw [List.filterMap_cons, if_pos hc]
      rw [e1, e2, delH, if_pos hbc]
      refine fm_congr fun d hd' => ?_
      have h3 := hd.1 d hd'
      rw [HB.is_symm] at h3
      rw [h3]
      rfl
    · have hbl : b ∈ l := by
        rcases List.mem_cons.1 h with e | e
        · subst e
          exact absurd b.is_self hc
        · exact e
      have ih := del_fm f hf b b' hfb l hd.2 hbl
      have e2 : ((c :: l).filterMap fun d => if d.is b.v b.ip = true then none else f d) = (match f c with | some d => d :: (l.filterMap fun d => if d.is b.v b.ip = true then none else f d) | none => (l.filterMap fun d => if d.is b.v b.ip = true then none else f d)) := by
        rw [List.filterMap_cons, if_neg hc]
        cases f c <;> rfl
      rw [e2, List.filterMap_cons]
      cases hfc : f c with
      | none => exact ih
      | some d =>
        obtain ⟨k1, k2⟩ := hf c d hfc
        have hdn : ¬ d.is b.v b.ip = true := by
          simp only [HB.is, k1, k2]
          exact hc
        simp only [delH]
        rw [if_neg hdn, ih]
/-- so far -/
def progF (time : Int) (left : Value → Bool) (b : HB) : Option HB := if left (hkV b.v b.ip) = true then some b else stepH time b
def progH (time : Int) (left : Value → Bool) (m : List HB) : List HB := m.filterMap (progF time left)
theorem stepH_key (time : Int) : keyP (stepH time) := by
  intro c d h
  unfold stepH at h
  split at h
  · cases h
  · cases h; exact ⟨rfl, rfl⟩
theorem progF_key (time : Int) (left : Value → Bool) : keyP (progF time left) := by
  intro c d h
  unfold progF at h
  split at h
  · cases h; exact ⟨rfl, rfl⟩
  · exact stepH_key time c d h
theorem prog_start (time : Int) (m : List HB) : progH time (fun _ => true) m = m := by
  unfold progH
  have : ∀ b, progF time (fun _ => true) b = some b := fun b => rfl
  induction m with
  | nil => rfl
  | cons b m ih => rw [List.filterMap_cons, this, ih]
theorem prog_end (time : Int) (left : Value → Bool) (m : List HB) (h : ∀ p ∈ encH (progH time left m), left p.1 = false) : progH time left m = tickH time m := by
  refine fm_congr fun b hb => ?_
  unfold progF
  split
  · rename_i hl
    have hm : b ∈ progH time left m := List.mem_filterMap.2 ⟨b, hb, by unfold progF; rw [if_pos hl]⟩
    have := h _ (List.mem_map_of_mem (f := fun b : HB => (hkV b.v b.ip, hvV b.mac b.age)) hm)
    rw [hl] at this
    cases this
  · rfl
theorem prog_mem (time : Int) (left : Value → Bool) (m : List HB) (p : Value × Value) (hp : p ∈ encH (progH time left m)) (hl : left p.1 = true) : ∃ b ∈ m, p = (hkV b.v b.ip, hvV b.mac b.age) := by
  obtain ⟨c, hc, rfl⟩ := List.mem_map.1 hp
  obtain ⟨b, hb, hf⟩ := List.mem_filterMap.1 hc
  unfold progF at hf
  split at hf
  · cases hf; exact ⟨_, hb, rfl⟩
  · rename_i hn
    obtain ⟨k1, k2⟩ := stepH_key time b c hf
    simp only [k1, k2] at hl
    exact absurd hl hn
theorem prog_dist (time : Int) (left : Value → Bool) (m : List HB) (h : DistH m) : DistH (progH time left m) := by
  unfold progH
  rw [DistH, List.pairwise_filterMap]
  refine List.Pairwise.imp ?_ h
  intro a b hab c hc d hd
  obtain ⟨k1, k2⟩ := progF_key time left a c hc
  obtain ⟨k3, k4⟩ := progF_key time left b d hd
  simp only [HB.is, k1, k2, k3, k4]
  exact hab
theorem dist_nodup (m : List HB) (h : DistH m) : ((encH m).map (·.1)).Nodup := by
  unfold encH
  rw [List.map_map, List.Nodup, List.pairwise_map]
  refine List.Pairwise.imp ?_ h
  intro a b hab e
  have e1 : sameA (hkV a.v a.ip) (hkV b.v b.ip) = sameA (hkV b.v b.ip) (hkV b.v b.ip) := by
    have : hkV a.v a.ip = hkV b.v b.ip := e
    rw [this]
  rw [sameH, sameH, b.is_self, HB.is_symm, hab] at e1
  cases e1
theorem left_same (left : Value → Bool) (b c : HB) : (left (hkV c.v c.ip) && !sameA (hkV b.v b.ip) (hkV c.v c.ip)) = (left (hkV c.v c.ip) && !c.is b.v b.ip) := by rw [sameH]
/-- one goes on -/
theorem prog_put (time : Int) (left : Value → Bool) (m : List HB) (hd : DistH m) (b : HB) (hb : b ∈ m) (hl : left (hkV b.v b.ip) = true) (ht : ¬ time ≤ b.age + 1) :
    putH ⟨b.v, b.ip, b.mac, b.age + 1⟩ (progH time left m) = progH time (fun z => left z && !sameA (hkV b.v b.ip) z) m := by
  unfold progH
  rw [put_fm (progF time left) (progF_key time left) b ⟨b.v, b.ip, b.mac, b.age + 1⟩ ⟨rfl, rfl⟩ (by unfold progF; rw [if_pos hl]) m hd hb]
  refine fm_congr fun c hc => ?_
  unfold progF
  simp only [sameH]
  by_cases hcb : c.is b.v b.ip = true
  · have : c = b := hd.one hc hb hcb
    subst this
    rw [if_pos hcb, hcb]
    simp only [Bool.not_true, Bool.and_false, Bool.false_eq_true, if_false, stepH, if_neg ht]
  · have : c.is b.v b.ip = false := by simpa using hcb
    rw [if_neg hcb, this]
    simp only [Bool.not_false, Bool.and_true]
/-- one is gone -/
theorem prog_del (time : Int) (left : Value → Bool) (m : List HB) (hd : DistH m) (b : HB) (hb : b ∈ m) (hl : left (hkV b.v b.ip) = true) (ht : time ≤ b.age + 1) :
    delH b.v b.ip (putH ⟨b.v, b.ip, b.mac, b.age + 1⟩ (progH time left m)) = progH time (fun z => left z && !sameA (hkV b.v b.ip) z) m := by
  unfold progH
  have hk := progF_key time left
  rw [put_fm (progF time left) hk b ⟨b.v, b.ip, b.mac, b.age + 1⟩ ⟨rfl, rfl⟩ (by unfold progF; rw [if_pos hl]) m hd hb]
  rw [del_fm _ ?_ b ⟨b.v, b.ip, b.mac, b.age + 1⟩ ?_ m hd hb]
  · refine fm_congr fun c hc => ?_
    unfold progF
    simp only [sameH]
    by_cases hcb : c.is b.v b.ip = true
    · have : c = b := hd.one hc hb hcb
      subst this
      rw [if_pos hcb, hcb]
      simp only [Bool.not_true, Bool.and_false, Bool.false_eq_true, if_false, stepH, if_pos ht]
    · have : c.is b.v b.ip = false := by simpa using hcb
      rw [if_neg hcb, if_neg hcb, this]
      simp only [Bool.not_false, Bool.and_true]
  · intro c d h
    simp only at h
    split at h
    · rename_i hcb
      cases h
      simp only [HB.is, Bool.and_eq_true, beq_iff_eq] at hcb
      exact ⟨hcb.1, hcb.2⟩
    · exact hk c d h
  · rw [if_pos b.is_self]
end Go.Proofs.Ytckckabedgpbiaa
