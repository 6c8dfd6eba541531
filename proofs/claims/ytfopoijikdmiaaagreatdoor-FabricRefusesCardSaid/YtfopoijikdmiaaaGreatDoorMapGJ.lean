/- Loops over maps, whatever is kept: how far they have come. No program in sight. -/
import Derived.Test.YtfopoijikdmiaaaGreatDoorJ6
set_option linter.unusedSimpArgs false
set_option linter.unusedVariables false
set_option maxHeartbeats 8000000
set_option maxRecDepth 20000
namespace Go.Proofs.YtfopoijikdmiaaaGreatDoor
open Go.RowKit
theorem fmap_congr {α β : Type} {f g : α → Option β} : ∀ {l : List α}, (∀ x ∈ l, f x = g x) → l.filterMap f = l.filterMap g
 | [], _ => rfl
 | x :: l, h => by
  rw [List.filterMap_cons, List.filterMap_cons, h x (by simp), fmap_congr fun y hy => h y (by simp [hy])]
abbrev KV := Value × Value
def keepsK (f : KV → Option KV) : Prop := ∀ p q, f p = some q → q.1 = p.1
def progV (f : KV → Option KV) (left : Value → Bool) (L : List KV) : List KV := L.filterMap fun p => if left p.1 = true then some p else f p
theorem progV_start (f : KV → Option KV) : ∀ L : List KV, progV f (fun _ => true) L = L
 | [] => rfl
 | p :: L => by
  have : progV f (fun _ => true) (p :: L) = p :: progV f (fun _ => true) L := rfl
  rw [this, progV_start f L]
section
variable {f : KV → Option KV} {left : Value → Bool} {L : List KV}
theorem progV_key (hf : keepsK f) {p q : KV} (h : (if left p.1 = true then some p else f p) = some q) : q.1 = p.1 := by
 split at h
 ·
  cases h; rfl
 ·
  exact hf p q h
theorem progV_mem (hf : keepsK f) {p : KV} (hp : p ∈ progV f left L) (hl : left p.1 = true) : p ∈ L := by
 obtain ⟨c, hc, h⟩ := List.mem_filterMap.1 hp
 have hk := progV_key hf h
 rw [hk] at hl
 rw [if_pos hl] at h
 cases h
 exact hc
theorem progV_has {p : KV} (hp : p ∈ L) (hl : left p.1 = true) : p ∈ progV f left L := List.mem_filterMap.2 ⟨p, hp, by rw [if_pos hl]⟩
theorem progV_end (h : ∀ p ∈ progV f left L, left p.1 = false) : progV f left L = L.filterMap f := by
 refine fmap_congr fun p hp => ?_
 split
 ·
  rename_i hl
  have := h p (progV_has hp hl)
  rw [hl] at this
  cases this
 ·
  rfl
theorem progV_nodup (hf : keepsK f) (h : (L.map (·.1)).Nodup) : ((progV f left L).map (·.1)).Nodup := by
 rw [List.Nodup, List.pairwise_map] at h ⊢
 unfold progV
 rw [List.pairwise_filterMap]
 refine List.Pairwise.imp ?_ h
 intro a b hab c hc d hd
 rw [progV_key hf hc, progV_key hf hd]
 exact hab
theorem progV_all {ok : Value → Prop} (hf : keepsK f) (h : ∀ p ∈ L, ok p.1) : ∀ p ∈ progV f left L, ok p.1 := by
 intro p hp
 obtain ⟨c, hc, e⟩ := List.mem_filterMap.1 hp
 rw [progV_key hf e]
 exact h c hc
variable {P : Program} {kt : TypeId} {ok : Value → Prop} {same : Value → Value → Bool}
theorem same_iff (K : KeyTy P kt ok same) {a b : Value} (ha : ok a) (hb : ok b) : same a b = true ↔ a = b :=
 ⟨K.eq a b ha hb, fun h => by subst h; exact K.refl a ha⟩
theorem progV_other (K : KeyTy P kt ok same) {p : KV} (hp : ok p.1) : ∀ {L : List KV}, (∀ q ∈ L, ok q.1) → (∀ q ∈ L, q.1 ≠ p.1) → progV f (fun z => left z && !same p.1 z) L = progV f left L := by
 intro L ha hn
 refine fmap_congr fun q hq => ?_
 have : same p.1 q.1 = false := Bool.eq_false_iff.2 fun h => hn q hq (K.eq _ _ hp (ha q hq) h).symm
 simp [this]
theorem progV_step (K : KeyTy P kt ok same) (hf : keepsK f) : ∀ {L : List KV}, (L.map (·.1)).Nodup → (∀ q ∈ L, ok q.1) → ∀ {p : KV}, p ∈ L → left p.1 = true →
  (∀ q, f p = some q → putV same p.1 q.2 (progV f left L) = progV f (fun z => left z && !same p.1 z) L) ∧ (f p = none → delV same p.1 (progV f left L) = progV f (fun z => left z && !same p.1 z) L)
 | [], _, _, p, h, _ => by cases h
 | c :: L, hd, ha, p, h, hl => by
  rw [List.map_cons, List.nodup_cons] at hd
  have hpk : ok p.1 := ha p h
  by_cases hc : c.1 = p.1
  ·
   have hcp : c = p := by
    rcases List.mem_cons.1 h with e | e
    ·
     exact e.symm
    ·
     exact absurd (show c.1 ∈ L.map (·.1) by rw [hc]; exact List.mem_map.2 ⟨p, e, rfl⟩) hd.1
   subst hcp
   have ho := progV_other (f := f) (left := left) K hpk (fun q hq => ha q (by simp [hq])) (fun q hq e => hd.1 (List.mem_map.2 ⟨q, hq, e⟩))
   have hr := K.refl c.1 hpk
   have e1 : progV f left (c :: L) = c :: progV f left L := by unfold progV; rw [List.filterMap_cons, if_pos hl]
   have hl2 : ¬ ((left c.1 && !same c.1 c.1) = true) := by simp [hr]
   refine ⟨fun q hq => ?_, fun hn => ?_⟩
   ·
    have e2 : progV f (fun z => left z && !same c.1 z) (c :: L) = q :: progV f (fun z => left z && !same c.1 z) L := by
     unfold progV
     rw [List.filterMap_cons, if_neg hl2, hq]
    rw [e1, e2, ho, putV, if_pos hr]
    congr 1
    exact Prod.ext (hf c q hq).symm rfl
   ·
    have e2 : progV f (fun z => left z && !same c.1 z) (c :: L) = progV f (fun z => left z && !same c.1 z) L := by
     unfold progV
     rw [List.filterMap_cons, if_neg hl2, hn]
    rw [e1, e2, ho, delV, if_pos hr]
  ·
   have hpl : p ∈ L := by
    rcases List.mem_cons.1 h with e | e
    ·
     exact absurd (by rw [e]) hc
    ·
     exact e
   have hck : ok c.1 := ha c (by simp)
   have hsc : same p.1 c.1 = false := Bool.eq_false_iff.2 fun h => hc (K.eq _ _ hpk hck h).symm
   have ih := progV_step K hf hd.2 (fun q hq => ha q (by simp [hq])) hpl hl
   have e2 : progV f (fun z => left z && !same p.1 z) (c :: L) = (match (if left c.1 = true then some c else f c) with | some d => d :: progV f (fun z => left z && !same p.1 z) L | none => progV f (fun z => left z && !same p.1 z) L) := by
    have : (if (left c.1 && !same p.1 c.1) = true then some c else f c) = (if left c.1 = true then some c else f c) := by rw [hsc]; simp
    unfold progV
    rw [List.filterMap_cons, this]
    cases (if left c.1 = true then some c else f c) <;> rfl
   have e1 : progV f left (c :: L) = (match (if left c.1 = true then some c else f c) with | some d => d :: progV f left L | none => progV f left L) := by
    unfold progV
    rw [List.filterMap_cons]
    cases (if left c.1 = true then some c else f c) <;> rfl
   rw [e1, e2]
   cases hd2 : (if left c.1 = true then some c else f c) with
   | none => exact ih
   | some d =>
    have hk := progV_key hf hd2
    have hsd : ¬ same p.1 d.1 = true := by rw [hk, hsc]; simp
    refine ⟨fun q hq => ?_, fun hn => ?_⟩
    ·
     simp only [putV]
     rw [if_neg hsd, ih.1 q hq]
    ·
     simp only [delV]
     rw [if_neg hsd, ih.2 hn]
theorem put_same (K : KeyTy P kt ok same) {k v : Value} (hk : ok k) : ∀ {L : List KV}, (L.map (·.1)).Nodup → (∀ q ∈ L, ok q.1) → (k, v) ∈ L → putV same k v L = L
 | [], _, _, h => by cases h
 | c :: L, hd, ha, h => by
  rw [List.map_cons, List.nodup_cons] at hd
  by_cases hs : same k c.1 = true
  ·
   have e := K.eq k c.1 hk (ha c (by simp)) hs
   rcases List.mem_cons.1 h with e2 | e2
   ·
    subst e2; simp only [putV]; rw [if_pos hs]
   ·
    exact absurd (List.mem_map.2 ⟨(k, v), e2, e⟩) hd.1
  ·
   have hm : (k, v) ∈ L := by
    rcases List.mem_cons.1 h with e2 | e2
    ·
     subst e2; exact absurd (K.refl k hk) hs
    ·
     exact e2
   simp only [putV]
   rw [if_neg hs, put_same K hk hd.2 (fun q hq => ha q (by simp [hq])) hm]
theorem progV_stay (K : KeyTy P kt ok same) (hf : keepsK f) (hd : (L.map (·.1)).Nodup) (ha : ∀ q ∈ L, ok q.1) {p : KV} (hp : p ∈ L) (hl : left p.1 = true) (hs : f p = some p) :
  progV f left L = progV f (fun z => left z && !same p.1 z) L := by
 rw [← (progV_step K hf hd ha hp hl).1 p hs, put_same K (ha p hp) (progV_nodup hf hd) (progV_all hf ha) (progV_has hp hl)]
end
theorem delV_length {P : Program} {kt : TypeId} {ok : Value → Prop} {same : Value → Value → Bool} (K : KeyTy P kt ok same) {k : Value} (hk : ok k) : ∀ {L : List KV}, (∃ p ∈ L, p.1 = k) → (delV same k L).length + 1 = L.length
 | [], h => by obtain ⟨p, hp, _⟩ := h; cases hp
 | c :: L, h => by
  simp only [delV]
  by_cases hs : same k c.1 = true
  ·
   rw [if_pos hs]
   rfl
  ·
   rw [if_neg hs, List.length_cons, List.length_cons]
   have : ∃ p ∈ L, p.1 = k := by
    obtain ⟨p, hp, e⟩ := h
    rcases List.mem_cons.1 hp with h1 | h1
    ·
     subst h1
     rw [e] at hs
     exact absurd (K.refl k hk) hs
    ·
     exact ⟨p, h1, e⟩
   rw [delV_length K hk this]
def cellI (v : Value) (i : Nat) : Int := match v with | .agg cs => (match cs[i]? with | some (.int _ n) => n | _ => 0) | _ => 0
end Go.Proofs.YtfopoijikdmiaaaGreatDoor
