/- Loops over maps: what is still to come. No program in sight. -/
import Derived.Test.YtckckabedgpbiaaMap
set_option linter.unusedSimpArgs false
set_option linter.unusedVariables false
namespace Go.Proofs.Ytckckabedgpbiaa
open Go.RowKit
open Go.ChangeMaps (setBlock)
section
variable {P : Program} {kt : TypeId} {ok : Value → Prop} {same : Value → Value → Bool} {k : Value}
/-- block r ranges over the map M; 'left': is a key still to come? -/
def iterOk (w : World) (r M : Nat) (left : Value → Bool) : Prop :=
  ∃ es clock since seen c0, w.heap[M]? = some (.map es clock) ∧ w.heap[r]? = some (.mapIter (some M) since seen c0) ∧ (∀ x ∈ es.toList, x.born < since) ∧ since ≤ c0 ∧ since ≤ clock ∧ (es.toList.map (·.born)).Nodup ∧ ∀ e ∈ es.toList, left e.key = !seen.contains e.born
/-- how many are still to come -/
def leftN (w : World) (r M : Nat) : Nat :=
  match w.heap[r]?, w.heap[M]? with
  | some (.mapIter _ _ seen _), some (.map es _) => (es.toList.filter fun e => !seen.contains e.born).length
  | _, _ => 0
theorem leftN_def (w : World) (r M : Nat) : leftN w r M = (match w.heap[r]?, w.heap[M]? with | some (.mapIter _ _ seen _), some (.map es _) => (es.toList.filter fun e => !seen.contains e.born).length | _, _ => 0) := rfl
theorem iterOk.ne {w : World} {r M : Nat} {left : Value → Bool} (h : iterOk w r M left) : r ≠ M := by
  obtain ⟨es, c, s, seen, c0, h1, h2, _⟩ := h
  intro e
  rw [e, h1] at h2
  cases h2
theorem iterOk.lt {w : World} {r M : Nat} {left : Value → Bool} (h : iterOk w r M left) : r < w.heap.size := by
  obtain ⟨es, c, s, seen, c0, h1, h2, _⟩ := h
  rcases Nat.lt_or_ge r w.heap.size with hlt | hge
  · exact hlt
  · rw [Array.getElem?_eq_none hge] at h2; cases h2
theorem iterOk.left_eq {w : World} {r M : Nat} {left : Value → Bool} (h : iterOk w r M left) : leftN w r M = ((mapL w M).filter fun p => left p.1).length := by
  obtain ⟨es, c, s, seen, c0, h1, h2, h3, h4, hsc, h5, h6⟩ := h
  rw [leftN_def]; unfold mapL
  rw [h1, h2]
  simp only [List.filter_map, List.length_map]
  congr 1
  refine List.filter_congr fun e he => ?_
  simp only [Function.comp, entP]
  rw [h6 e he]
theorem iterOk.kept {w w' : World} {r M : Nat} {left : Value → Bool} (h : iterOk w r M left) (h1 : w'.heap[M]? = w.heap[M]?) (h2 : w'.heap[r]? = w.heap[r]?) : iterOk w' r M left := by
  obtain ⟨es, c, s, seen, c0, g1, g2, g3⟩ := h
  exact ⟨es, c, s, seen, c0, by rw [h1, g1], by rw [h2, g2], g3⟩
theorem leftN_kept {w w' : World} {r M : Nat} (h1 : w'.heap[M]? = w.heap[M]?) (h2 : w'.heap[r]? = w.heap[r]?) : leftN w' r M = leftN w r M := by
  rw [leftN_def, leftN_def]
  rw [h1, h2]
/-- 'range m' -/
theorem run_range {t et : TypeId} (ht : P.underlying t = some (.map kt et)) {w : World} {M : Nat} (hm : mapOk w M) :
    ∃ o, (Instr.range t (.map (some M))).run P w = .ok (.pointer (some ⟨w.heap.size, 0, none⟩)) (w.alloc o) ∧ iterOk (w.alloc o) w.heap.size M fun _ => true := by
  have hlt := hm.lt
  obtain ⟨es, cl, hb, h1, h2⟩ := hm
  have hu := run_underlying ht w
  refine ⟨.mapIter (some M) cl #[] cl, ?_, es, cl, cl, #[], cl, ?_, heap_alloc_new _ _, h1, Nat.le_refl _, Nat.le_refl _, h2, fun e _ => by simp⟩
  · simp only [Instr.range, Sem.run_bind, hu, Result.andThen, Go.MapKept.run_getObj_map hb, Sem.run_pure, run_newObj_alloc]
  · rw [Below.heap_alloc _ _ _ hlt, hb]
theorem born_eq {es : List MapEntry} (hn : (es.map (·.born)).Nodup) {x y : MapEntry} (hx : x ∈ es) (hy : y ∈ es) (h : x.born = y.born) : x = y := by
  induction es with
  | nil => cases hx
  | cons z l ih =>
    rw [List.map_cons, List.nodup_cons] at hn
    rcases List.mem_cons.1 hx with hx | hx <;> rcases List.mem_cons.1 hy with hy | hy
    · rw [hx, hy]
    · rw [hx] at h; exact absurd (List.mem_map.2 ⟨y, hy, h.symm⟩) hn.1
    · rw [hy] at h; exact absurd (List.mem_map.2 ⟨x, hx, h⟩) hn.1
    · exact ih hn.2 hx hy
theorem key_same {es : List MapEntry} (hn : (es.map (·.key)).Nodup) {x y : MapEntry} (hx : x ∈ es) (hy : y ∈ es) (h : x.key = y.key) : x = y := by
  induction es with
  | nil => cases hx
  | cons z l ih =>
    rw [List.map_cons, List.nodup_cons] at hn
    rcases List.mem_cons.1 hx with hx | hx <;> rcases List.mem_cons.1 hy with hy | hy
    · rw [hx, hy]
    · rw [hx] at h; exact absurd (List.mem_map.2 ⟨y, hy, h.symm⟩) hn.1
    · rw [hy] at h; exact absurd (List.mem_map.2 ⟨x, hx, h⟩) hn.1
    · exact ih hn.2 hx hy
/-- the next round: either nothing is left, or a key that is still to come -/
theorem run_nextM (K : KeyTy P kt ok same) {w : World} {r M : Nat} {left : Value → Bool} (hi : iterOk w r M left) (ha : ∀ p ∈ mapL w M, ok p.1) (hn : ((mapL w M).map (·.1)).Nodup) :
    ((∀ p ∈ mapL w M, left p.1 = false) ∧ ∀ ty, (Instr.next (.pointer (some ⟨r, 0, none⟩)) false ty).run P w = .ok (.tuple #[.bool false]) w) ∨
    ∃ p ∈ mapL w M, left p.1 = true ∧ ∃ w', (∀ ty, (Instr.next (.pointer (some ⟨r, 0, none⟩)) false ty).run P w = .ok (.tuple #[.bool true, p.1, p.2]) w') ∧ Turn r w w' ∧ iterOk w' r M (fun z => left z && !same p.1 z) ∧
      (Instr.entry (.pointer (some ⟨r, 0, none⟩))).run P w' = .ok (.tuple #[p.1, p.2]) w' := by
  have hne := hi.ne
  have hrl := hi.lt
  obtain ⟨es, cl, since, seen, c0, h1, h2, h3, h4, hsc, h5, h6⟩ := hi
  have hl : mapL w M = es.toList.map entP := by unfold mapL; rw [h1]
  rw [hl] at ha hn ⊢
  have hnk : (es.toList.map (·.key)).Nodup := by
    rw [List.map_map] at hn
    exact hn
  rcases run_next_at (P := P) w 0 r M since c0 seen es cl h2 h1 h3 h4 with ⟨h0, hrun⟩ | ⟨e, he, w1, hw1, hrun⟩
  · left
    refine ⟨fun p hp => ?_, fun ty => hrun⟩
    obtain ⟨e, he, rfl⟩ := List.mem_map.1 hp
    simp only [entP]
    rw [h6 e he]
    cases hc : seen.contains e.born with
    | true => rfl
    | false =>
      exfalso
      have hm : e ∈ (leftOf es seen).toList := by
        unfold leftOf
        simp only [Array.toList_filter, List.mem_filter]
        exact ⟨he, by rw [hc]; rfl⟩
      have : (leftOf es seen).toList = [] := by
        rw [Array.toList_eq_nil_iff]
        exact Array.eq_empty_of_size_eq_zero h0
      rw [this] at hm
      cases hm
  · right
    have hm : e ∈ es.toList ∧ (!seen.contains e.born) = true := by
      unfold leftOf at he
      simpa only [Array.toList_filter, List.mem_filter] using he
    obtain ⟨he, hsn⟩ := hm
    refine ⟨entP e, List.mem_map_of_mem he, by simp only [entP]; rw [h6 e he, hsn], _, fun ty => hrun, ?_, ?_, ?_⟩
    · rcases hw1 with rfl | rfl <;> exact ⟨rfl, rfl, rfl, by simp [setBlock]; try rfl, fun k hk => by simp [setBlock, Array.getElem?_setIfInBounds, Ne.symm hk]; try rfl⟩
    · have hb1 : (setBlock w1 r (.mapIter (some M) since (seen.push e.born) cl)).heap[M]? = some (.map es cl) := by
        rcases hw1 with rfl | rfl <;> simp [setBlock, Array.getElem?_setIfInBounds, hne, h1]; try exact h1
      have hr1 : (setBlock w1 r (.mapIter (some M) since (seen.push e.born) cl)).heap[r]? = some (.mapIter (some M) since (seen.push e.born) cl) := by
        rcases hw1 with rfl | rfl <;> simp [setBlock, Array.getElem?_setIfInBounds, hrl]
      refine ⟨es, cl, since, seen.push e.born, cl, hb1, hr1, h3, hsc, hsc, h5, fun x hx => ?_⟩
      simp only [entP]
      rw [h6 x hx, Array.contains_push]
      by_cases hxe : x = e
      · subst hxe
        have hr := K.refl x.key (ha (entP x) (List.mem_map_of_mem hx))
        simp [hr]
      · have hb : x.born ≠ e.born := fun h => hxe (born_eq h5 hx he h)
        have hk : same e.key x.key = false := by
          cases hs : same e.key x.key with
          | false => rfl
          | true =>
            have := K.eq e.key x.key (ha (entP e) (List.mem_map_of_mem he)) (ha (entP x) (List.mem_map_of_mem hx)) hs
            exact absurd (key_same hnk hx he this.symm) hxe
        rw [hk]
        simp [hb]
    · refine run_entry_at _ r M since seen es cl e ?_ ?_ he h5
      · rcases hw1 with rfl | rfl <;> simp [setBlock, Array.getElem?_setIfInBounds, hrl]
      · rcases hw1 with rfl | rfl <;> simp [setBlock, Array.getElem?_setIfInBounds, hne, h1]; try exact h1
theorem filter_lt {α : Type} {f g : α → Bool} {x : α} : ∀ {l : List α}, x ∈ l → f x = true → g x = false → (l.filter fun y => f y && g y).length < (l.filter f).length
  | [], h, _, _ => by cases h
  | y :: l, h, hf, hg => by
    have hle : ∀ l : List α, (l.filter fun y => f y && g y).length ≤ (l.filter f).length := by
      intro l
      induction l with
      | nil => simp
      | cons z l ih =>
        rw [List.filter_cons, List.filter_cons]
        cases f z <;> cases g z <;> simp <;> omega
    rcases List.mem_cons.1 h with e | h1
    · subst e
      rw [List.filter_cons, List.filter_cons, hf, hg]
      have := hle l
      simp
      omega
    · have ih := filter_lt h1 hf hg
      rw [List.filter_cons, List.filter_cons]
      cases f y <;> cases g y <;> simp <;> omega
/-- a key that is there is given another value: what is to come stays -/
theorem iterOk.put {w w' : World} {r M : Nat} {left : Value → Bool} (hi : iterOk w r M left) (hT : Turn M w w')
    (h : ∀ es cl, w.heap[M]? = some (.map es cl) → ∃ es', w'.heap[M]? = some (.map es' cl) ∧ es'.toList.map (fun e => (e.key, e.born)) = es.toList.map (fun e => (e.key, e.born))) :
    iterOk w' r M left ∧ leftN w' r M = leftN w r M := by
  have hne := hi.ne
  obtain ⟨es, cl, since, seen, c0, h1, h2, h3, h4, hsc, h5, h6⟩ := hi
  obtain ⟨es', g1, g2⟩ := h es cl h1
  have h2' : w'.heap[r]? = some (.mapIter (some M) since seen c0) := by rw [hT.block r hne, h2]
  have hb : es'.toList.map (·.born) = es.toList.map (·.born) := by
    have h := congrArg (List.map Prod.snd) g2
    rw [List.map_map, List.map_map] at h
    exact h
  have hex : ∀ x ∈ es'.toList, ∃ y ∈ es.toList, y.key = x.key ∧ y.born = x.born := by
    intro x hx
    have : (x.key, x.born) ∈ es'.toList.map (fun e => (e.key, e.born)) := List.mem_map_of_mem (f := fun e : MapEntry => (e.key, e.born)) hx
    rw [g2] at this
    obtain ⟨y, hy, e⟩ := List.mem_map.1 this
    simp only [Prod.mk.injEq] at e
    exact ⟨y, hy, e.1, e.2⟩
  refine ⟨⟨es', cl, since, seen, c0, g1, h2', fun x hx => ?_, h4, hsc, by rw [hb]; exact h5, fun x hx => ?_⟩, ?_⟩
  · obtain ⟨y, hy, _, e2⟩ := hex x hx
    rw [← e2]
    exact h3 y hy
  · obtain ⟨y, hy, e1, e2⟩ := hex x hx
    rw [← e1, ← e2]
    exact h6 y hy
  · unfold leftN
    rw [h1, h2, g1, h2']
    have e1 : ∀ l : List MapEntry, (l.filter fun e => !seen.contains e.born).length = ((l.map (·.born)).filter fun b => !seen.contains b).length := by
      intro l
      rw [List.filter_map, List.length_map]
      rfl
    simp only [e1, hb]
/-- a key is deleted: no more is to come -/
theorem iterOk.del {w w' : World} {r M : Nat} {left : Value → Bool} (hi : iterOk w r M left) (hT : Turn M w w')
    (h : ∀ es cl, w.heap[M]? = some (.map es cl) → ∃ es', w'.heap[M]? = some (.map es' cl) ∧ ∃ i, es'.toList = es.toList.eraseIdx i ∧ (delV same k (es.toList.map entP) = (es.toList.map entP).eraseIdx i)) :
    iterOk w' r M left ∧ leftN w' r M ≤ leftN w r M := by
  have hne := hi.ne
  obtain ⟨es, cl, since, seen, c0, h1, h2, h3, h4, hsc, h5, h6⟩ := hi
  obtain ⟨es', g1, i, g2, _⟩ := h es cl h1
  have h2' : w'.heap[r]? = some (.mapIter (some M) since seen c0) := by rw [hT.block r hne, h2]
  have hsub : es'.toList.Sublist es.toList := by rw [g2]; exact List.eraseIdx_sublist _ _
  refine ⟨⟨es', cl, since, seen, c0, g1, h2', fun x hx => h3 x (hsub.subset hx), h4, hsc, h5.sublist (hsub.map _), fun x hx => h6 x (hsub.subset hx)⟩, ?_⟩
  rw [leftN_def, leftN_def]
  rw [h1, h2, g1, h2']
  exact (hsub.filter _).length_le
end
end Go.Proofs.Ytckckabedgpbiaa
