/- Texts of this proof, merged: Que, QueT, Vec. -/
import Derived.Test.YtfopoijikdmiaaaGreatDoorJ9
import Derived.Test.YtfopoijikdmiaaaGreatDoorJ2
import Derived.BigQuiet
import Derived.Laws.FloatArith
import Derived.Laws.Externs
set_option linter.unusedSimpArgs false
set_option linter.unusedVariables false
set_option maxHeartbeats 8000000
set_option maxRecDepth 20000
namespace Go.Proofs.YtfopoijikdmiaaaGreatDoor
section
open Go.RowKit
theorem grow_cellQ (Q j : Nat) (v : Value) : GrowP fun W => W.cell? ⟨Q, j, none⟩ = some v ∧ Q < W.heap.size := fun w w1 h hb => by
 refine ⟨?_, Nat.lt_of_lt_of_le h.2 hb.size⟩
 have := h.1
 unfold World.cell? at this ⊢
 rw [hb.block Q h.2]
 exact this
theorem grow_rowQ (E : Nat) (c : Array Value) : GrowP fun W => row W E = c ∧ E < W.heap.size := fun w w1 h hb => ⟨(row_below hb h.2).trans h.1, Nat.lt_of_lt_of_le h.2 hb.size⟩
theorem eventInfo : (Tryz.prog.info? 139).map (fun i => (i.zero.map (·.cells.size), i.size, i.bytes)) = some (some 2, 2, 24) := by kernel_rfl
theorem own_rowE {w : World} {B : Nat} {e : TypeId} {sz : Nat} {v : Value} {l : List (List Value)} (h : OwnL w B e sz v l) (hl : l ≠ []) : ∃ g cap rest, v = .slice (some ⟨g, 0, none⟩) l.length cap ∧ row w g = (l.flatten ++ rest).toArray ∧ B ≤ g ∧ g < w.heap.size := by
 obtain ⟨_, hlen, ⟨_, h0⟩ | ⟨g, cap, cur, rfl, hg0, hg, _, _, _, ht⟩⟩ := h
 ·
  exact absurd (List.eq_nil_of_length_eq_zero h0) hl
 ·
  refine ⟨g, cap, cur.toList.drop l.flatten.length, rfl, ?_, hg0, (Array.getElem?_eq_some_iff.1 hg).1⟩
  unfold row
  have hlf : l.flatten.length = l.length * sz := hlen
  rw [hg, ← ht]
  have : (List.take (l.length * sz) cur.toList).length = l.length * sz := by rw [ht]; exact hlf
  rw [this, List.take_append_drop]
  simp
theorem own_cap {w : World} {B : Nat} {e : TypeId} {sz n cap : Nat} {g : Addr} {l : List (List Value)} (h : OwnL w B e sz (.slice (some g) n cap) l) : l.length ≤ cap := by
 obtain ⟨_, _, ⟨h0, _⟩ | ⟨g', cap', cur, hv, _, _, hc1, _⟩⟩ := h
 ·
  cases h0
 ·
  simp only [Value.slice.injEq] at hv
  rw [hv.2.2]
  exact hc1
theorem qKind_any (c : Bool) (w : World) : Calls Tryz.prog 137 #[.bool c] w fun e w' => e = .returned (.int .i64 (if c then 0 else 1)) ∧ w' = w := by
 go_enter Tryz.func137, Tryz.ntmps137
 cases c with
 | true =>
  go_wp2_with fail
  go_ret
  exact ⟨rfl, rfl⟩
 | false =>
  go_wp2_with fail
  go_ret
  exact ⟨rfl, rfl⟩
theorem qNew_bad (room : Int) (h : ¬ (1 ≤ room ∧ room ≤ 65536)) (w : World) : Calls Tryz.prog 97 #[.int .i64 room] w fun e w' => e = .returned (.tuple #[.pointer none, .int .i64 1]) ∧ Below w.heap.size w w' := by
 go_enter Tryz.func97, Tryz.ntmps97
 by_cases h1 : room < 1
 ·
  go_wp2_with fail
  go_ret2
  exact ⟨rfl, blw_⟩
 ·
  have h2 : 65536 < room := by omega
  go_wp2_with fail
  go_ret2
  exact ⟨rfl, blw_⟩
theorem qNew_ok (room : Int) (h : 1 ≤ room ∧ room ≤ 65536) (w : World) : Calls Tryz.prog 97 #[.int .i64 room] w fun e w' => ∃ Q, e = .returned (.tuple #[.pointer (some ⟨Q, 0, none⟩), .int .i64 0]) ∧ w.heap.size ≤ Q ∧ Q < w'.heap.size ∧ row w' Q = #[.int .i64 room, .slice none 0 0, .slice none 0 0, .int .i64 0] ∧ Below w.heap.size w w' := by
 have h1 : ¬ room < 1 := by omega
 have h2 : ¬ 65536 < room := by omega
 go_enter Tryz.func97, Tryz.ntmps97
 go_wp2_with fail
 go_ret2
 exact ⟨w.heap.size, rfl, Nat.le_refl _, by simp, (row_alloc_at _ _ _ rfl).trans rfl, blw_⟩
theorem qPut_0 (Q : Nat) (limit d port : Int) (hl : 1 ≤ limit) (v1 : Value) (s : List UInt8) (w : World) (hQ : row w Q = #[.int .i64 limit, .slice none 0 0, v1, .int .i64 d]) :
  Calls Tryz.prog 84 #[.pointer (some ⟨Q, 0, none⟩), .bool true, .agg #[.int .i64 port, .string ⟨s.toArray⟩]] w fun e w' => ∃ g cap, e = .returned (.int .i64 0) ∧ row w' Q = #[.int .i64 limit, .slice (some ⟨g, 0, none⟩) 1 cap, v1, .int .i64 d] ∧ (∃ rest, row w' g = (Value.int .i64 port :: Value.string ⟨s.toArray⟩ :: rest).toArray) ∧ (1 ≤ cap ∧ w.heap.size ≤ g) ∧ g < w'.heap.size ∧ BelowBut w.heap.size Q w w' := by
 have zQ : Q < w.heap.size := lt_of_row (i := 0) (by rw [hQ]; simp)
 go_enter Tryz.func84, Tryz.ntmps84
 obtain ⟨w1, hw1⟩ : ∃ x, w.alloc (.cells #[Value.int .i64 port, .string ⟨s.toArray⟩] 139) = x := ⟨_, rfl⟩
 have b1 : Below w.heap.size w w1 := by rw [← hw1]; exact ba_
 have z1 : w1.heap.size = w.heap.size + 1 := by rw [← hw1, alloc_sizeW]
 obtain ⟨E, hE⟩ : ∃ E, w.heap.size = E := ⟨_, rfl⟩
 have rE1 : row w1 E = #[Value.int .i64 port, .string ⟨s.toArray⟩] := by rw [← hw1, ← hE]; exact row_alloc_at _ _ _ rfl
 have rQ1 := (row_below b1 zQ).trans hQ
 have hl0 : ¬ limit ≤ 0 := by omega
 have kQ : Q < w1.heap.size := by omega
 have kE : E < w1.heap.size := by omega
 go_wp2_with fail
 (try rw [hE])
 (try clear hw1)
 clear z1
 refine (qKind_any true w1).mono ?_
 rintro e w2 ⟨rfl, rfl⟩
 go_wp2_with fail
 go_quiet (fail)
 go_wp2_with fail
 have b3 : Below w2.heap.size w2 (w2.drewN nq) := below_drewN (Below.refl _ _) _
 obtain ⟨w3, hw3⟩ : ∃ w3, w2.drewN nq = w3 := ⟨_, rfl⟩
 rw [hw3] at b3 ⊢
 have z3 := b3.size
 have rQ3 := (row_below b3 kQ).trans rQ1
 have rE3 := (row_below b3 kE).trans rE1
 have cQ3 : w3.cell? ⟨Q, 1, none⟩ = some (.slice none 0 0) := by rw [cell_of_row' (by rw [rQ3]; simp), rQ3]; rfl
 have B3 := b1.trans (b3.mono (by omega))
 have hG : GrowP fun W => (W.cell? ⟨Q, 1, none⟩ = some (.slice none 0 0) ∧ Q < W.heap.size) ∧ (row W E = #[.int .i64 port, .string ⟨s.toArray⟩] ∧ E < W.heap.size) := GrowP.and (grow_cellQ _ _ _) (grow_rowQ _ _)
 clear hw3 b3 rQ1 rE1 b1
 refine wp_region_beginKG 14 _ hG rfl ⟨⟨cQ3, by omega⟩, rE3, by omega⟩ (fun hS => ?_)
 refine kg 0 hG hS ?_
 refine kg 1 hG hS ?_
 refine kg 2 hG hS ?_
 refine kg 3 hG hS ?_
 refine kg 4 hG hS ?_
 refine kg 5 hG hS ?_
 refine kg 6 hG hS ?_
 refine kg 7 hG hS ?_
 refine kg 8 hG hS ?_
 refine kf 11 hG hS ?_
 refine kf 12 hG hS ?_
 refine wpAnyK_op1 9 kr_ (by decide) (fun u4 hu4 => ?_)
 replace hu4 : Below w3.heap.size w3 u4 := below_step (Below.drew (Below.refl _ _)) hu4
 have zu4 := hu4.size
 refine wpOp_step rfl (fun K hK => ?_)
 clear hS
 go_simp
 obtain ⟨u5, hu5⟩ : ∃ x, u4.alloc (.cells #[Value.int .i64 port, .string ⟨s.toArray⟩] 139) = x := ⟨_, rfl⟩
 have b5 : Below u4.heap.size u4 u5 := by rw [← hu5]; exact ba_
 have r5 : row u5 u4.heap.size = #[Value.int .i64 port, .string ⟨s.toArray⟩] := by rw [← hu5]; exact row_alloc_at _ _ _ rfl
 have z5 : u5.heap.size = u4.heap.size + 1 := by rw [← hu5, alloc_sizeW]
 have b35 : Below w3.heap.size w3 u5 := hu4.trans (b5.mono zu4)
 rw [hu5]
 have hS : XS [] (fun W => (W.cell? ⟨Q, 1, none⟩ = some (.slice none 0 0) ∧ Q < W.heap.size) ∧ (row W E = #[.int .i64 port, .string ⟨s.toArray⟩] ∧ E < W.heap.size)) u5 := XS.grow hG _ _ ⟨trivial, ⟨cQ3, by omega⟩, rE3, by omega⟩ b35
 refine hK _ _ ⟨hS, ?_⟩
 clear hK K hu5
 (try simp only [Act.put, List.setIfInBounds_toArray, List.set_cons_zero, List.set_cons_succ])
 refine wpAnyK_op1 10 kr_ (by decide) (fun u6 hu6 => ?_)
 have zu6 := hu6.size
 have r6 := (row_below hu6 (by omega)).trans r5
 have b36 : Below w3.heap.size w3 u6 := b35.trans (hu6.mono (by omega))
 refine wpOp_wp opt_ rfl ?_
 refine wp_appendL (t := 207) rfl Tryz.underlying207 eventInfo (by decide) (by decide) w3.heap.size _ [] rfl (OwnL.nil _ _ _ _) u4.heap.size 1 [Value.int .i64 port, .string ⟨s.toArray⟩] rfl r6 rfl rfl (by simp) (by omega) ?_
 intro v' u7 hown7 b7 hk7
 have zu7 := b7.size
 obtain ⟨g, cap, rest, hv, hr7, hg7, hgl⟩ := own_rowE hown7 (by simp)
 simp only [List.nil_append, List.length_singleton, List.flatten_cons, List.flatten_nil, List.append_nil, List.cons_append] at hv hr7
 have hcap : 1 ≤ cap := own_cap (hv ▸ hown7)
 subst hv
 have b37 : Below w3.heap.size w3 u7 := b36.trans b7
 have hS : XS [] (fun W => (W.cell? ⟨Q, 1, none⟩ = some (.slice none 0 0) ∧ Q < W.heap.size) ∧ (row W E = #[.int .i64 port, .string ⟨s.toArray⟩] ∧ E < W.heap.size)) u7 := XS.grow hG _ _ ⟨trivial, ⟨cQ3, by omega⟩, rE3, by omega⟩ b37
 refine ⟨hS, ?_⟩
 (try simp only [Act.put, List.setIfInBounds_toArray, List.set_cons_zero, List.set_cons_succ])
 refine kg 13 hG hS ?_
 refine wpAnyK_store (k := 14) opt_ rfl rfl kr_ (fun y hy => ?_)
 have zy := hy.size
 have b3y : Below w3.heap.size w3 y := b37.trans (hy.mono (by omega))
 have rQy := (row_below b3y (by omega)).trans rQ3
 obtain ⟨y2, hy2⟩ : ∃ x, y.setRow Q #[.int .i64 limit, .slice (some ⟨g, 0, none⟩) 1 cap, v1, .int .i64 d] = x := ⟨_, rfl⟩
 refine ⟨y2, ?_, ⟨trivial, trivial⟩, fun hS => ?_⟩
 ·
  rw [← hy2]
  go_simp
  try exact ⟨_, _, rfl, rfl⟩
 refine wpAnyR_done kr_ (fun w8 b8 => ?_) _
 have zy2 : y2.heap.size = y.heap.size := by rw [← hy2]; simp
 have z8 := b8.size
 have rQ8 : row w8 Q = #[.int .i64 limit, .slice (some ⟨g, 0, none⟩) 1 cap, v1, .int .i64 d] := by
  rw [row_below b8 (by omega), ← hy2]
  exact row_setRow_same (by rw [rQy]; simp) (by rw [rQy]; simp)
 have rG8 : row w8 g = (Value.int .i64 port :: Value.string ⟨s.toArray⟩ :: rest).toArray := by
  rw [row_below b8 (by omega), ← hy2, row_setRow_other _ _ _ (by omega), row_below hy (by omega)]
  exact hr7
 have B8 : BelowBut w.heap.size Q w w8 := (BelowBut.of (B3.trans (b3y.mono (by omega)))).trans ⟨by rw [b8.os, ← hy2]; rfl, by rw [b8.tape, ← hy2]; rfl, by rw [b8.output, ← hy2]; rfl, by omega, fun k hk hne => by rw [b8.block k (by omega), ← hy2, setRow_block_other _ _ _ hne]⟩
 clear hS hy2 rQy b3y hy b8
 go_wp2_with fail
 go_ret
 exact ⟨g, cap, rfl, rQ8, ⟨rest, rG8⟩, ⟨hcap, by omega⟩, by omega, B8⟩
theorem qPut_1 (Q : Nat) (limit d port : Int) (hl : 1 ≤ limit) (v0 : Value) (s : List UInt8) (w : World) (hQ : row w Q = #[.int .i64 limit, v0, .slice none 0 0, .int .i64 d]) :
  Calls Tryz.prog 84 #[.pointer (some ⟨Q, 0, none⟩), .bool false, .agg #[.int .i64 port, .string ⟨s.toArray⟩]] w fun e w' => ∃ g cap, e = .returned (.int .i64 0) ∧ row w' Q = #[.int .i64 limit, v0, .slice (some ⟨g, 0, none⟩) 1 cap, .int .i64 d] ∧ (∃ rest, row w' g = (Value.int .i64 port :: Value.string ⟨s.toArray⟩ :: rest).toArray) ∧ (1 ≤ cap ∧ w.heap.size ≤ g) ∧ g < w'.heap.size ∧ BelowBut w.heap.size Q w w' := by
 have zQ : Q < w.heap.size := lt_of_row (i := 0) (by rw [hQ]; simp)
 go_enter Tryz.func84, Tryz.ntmps84
 obtain ⟨w1, hw1⟩ : ∃ x, w.alloc (.cells #[Value.int .i64 port, .string ⟨s.toArray⟩] 139) = x := ⟨_, rfl⟩
 have b1 : Below w.heap.size w w1 := by rw [← hw1]; exact ba_
 have z1 : w1.heap.size = w.heap.size + 1 := by rw [← hw1, alloc_sizeW]
 obtain ⟨E, hE⟩ : ∃ E, w.heap.size = E := ⟨_, rfl⟩
 have rE1 : row w1 E = #[Value.int .i64 port, .string ⟨s.toArray⟩] := by rw [← hw1, ← hE]; exact row_alloc_at _ _ _ rfl
 have rQ1 := (row_below b1 zQ).trans hQ
 have hl0 : ¬ limit ≤ 0 := by omega
 have kQ : Q < w1.heap.size := by omega
 have kE : E < w1.heap.size := by omega
 go_wp2_with fail
 (try rw [hE])
 (try clear hw1)
 clear z1
 refine (qKind_any false w1).mono ?_
 rintro e w2 ⟨rfl, rfl⟩
 go_wp2_with fail
 go_quiet (fail)
 go_wp2_with fail
 have b3 : Below w2.heap.size w2 (w2.drewN nq) := below_drewN (Below.refl _ _) _
 obtain ⟨w3, hw3⟩ : ∃ w3, w2.drewN nq = w3 := ⟨_, rfl⟩
 rw [hw3] at b3 ⊢
 have z3 := b3.size
 have rQ3 := (row_below b3 kQ).trans rQ1
 have rE3 := (row_below b3 kE).trans rE1
 have cQ3 : w3.cell? ⟨Q, 2, none⟩ = some (.slice none 0 0) := by rw [cell_of_row' (by rw [rQ3]; simp), rQ3]; rfl
 have B3 := b1.trans (b3.mono (by omega))
 have hG : GrowP fun W => (W.cell? ⟨Q, 2, none⟩ = some (.slice none 0 0) ∧ Q < W.heap.size) ∧ (row W E = #[.int .i64 port, .string ⟨s.toArray⟩] ∧ E < W.heap.size) := GrowP.and (grow_cellQ _ _ _) (grow_rowQ _ _)
 clear hw3 b3 rQ1 rE1 b1
 refine wp_region_beginKG 14 _ hG rfl ⟨⟨cQ3, by omega⟩, rE3, by omega⟩ (fun hS => ?_)
 refine kg 0 hG hS ?_
 refine kg 1 hG hS ?_
 refine kg 2 hG hS ?_
 refine kg 3 hG hS ?_
 refine kg 4 hG hS ?_
 refine kg 5 hG hS ?_
 refine kg 6 hG hS ?_
 refine kg 7 hG hS ?_
 refine kg 8 hG hS ?_
 refine kf 11 hG hS ?_
 refine kf 12 hG hS ?_
 refine wpAnyK_op1 9 kr_ (by decide) (fun u4 hu4 => ?_)
 replace hu4 : Below w3.heap.size w3 u4 := below_step (Below.drew (Below.refl _ _)) hu4
 have zu4 := hu4.size
 refine wpOp_step rfl (fun K hK => ?_)
 clear hS
 go_simp
 obtain ⟨u5, hu5⟩ : ∃ x, u4.alloc (.cells #[Value.int .i64 port, .string ⟨s.toArray⟩] 139) = x := ⟨_, rfl⟩
 have b5 : Below u4.heap.size u4 u5 := by rw [← hu5]; exact ba_
 have r5 : row u5 u4.heap.size = #[Value.int .i64 port, .string ⟨s.toArray⟩] := by rw [← hu5]; exact row_alloc_at _ _ _ rfl
 have z5 : u5.heap.size = u4.heap.size + 1 := by rw [← hu5, alloc_sizeW]
 have b35 : Below w3.heap.size w3 u5 := hu4.trans (b5.mono zu4)
 rw [hu5]
 have hS : XS [] (fun W => (W.cell? ⟨Q, 2, none⟩ = some (.slice none 0 0) ∧ Q < W.heap.size) ∧ (row W E = #[.int .i64 port, .string ⟨s.toArray⟩] ∧ E < W.heap.size)) u5 := XS.grow hG _ _ ⟨trivial, ⟨cQ3, by omega⟩, rE3, by omega⟩ b35
 refine hK _ _ ⟨hS, ?_⟩
 clear hK K hu5
 (try simp only [Act.put, List.setIfInBounds_toArray, List.set_cons_zero, List.set_cons_succ])
 refine wpAnyK_op1 10 kr_ (by decide) (fun u6 hu6 => ?_)
 have zu6 := hu6.size
 have r6 := (row_below hu6 (by omega)).trans r5
 have b36 : Below w3.heap.size w3 u6 := b35.trans (hu6.mono (by omega))
 refine wpOp_wp opt_ rfl ?_
 refine wp_appendL (t := 207) rfl Tryz.underlying207 eventInfo (by decide) (by decide) w3.heap.size _ [] rfl (OwnL.nil _ _ _ _) u4.heap.size 1 [Value.int .i64 port, .string ⟨s.toArray⟩] rfl r6 rfl rfl (by simp) (by omega) ?_
 intro v' u7 hown7 b7 hk7
 have zu7 := b7.size
 obtain ⟨g, cap, rest, hv, hr7, hg7, hgl⟩ := own_rowE hown7 (by simp)
 simp only [List.nil_append, List.length_singleton, List.flatten_cons, List.flatten_nil, List.append_nil, List.cons_append] at hv hr7
 have hcap : 1 ≤ cap := own_cap (hv ▸ hown7)
 subst hv
 have b37 : Below w3.heap.size w3 u7 := b36.trans b7
 have hS : XS [] (fun W => (W.cell? ⟨Q, 2, none⟩ = some (.slice none 0 0) ∧ Q < W.heap.size) ∧ (row W E = #[.int .i64 port, .string ⟨s.toArray⟩] ∧ E < W.heap.size)) u7 := XS.grow hG _ _ ⟨trivial, ⟨cQ3, by omega⟩, rE3, by omega⟩ b37
 refine ⟨hS, ?_⟩
 (try simp only [Act.put, List.setIfInBounds_toArray, List.set_cons_zero, List.set_cons_succ])
 refine kg 13 hG hS ?_
 refine wpAnyK_store (k := 14) opt_ rfl rfl kr_ (fun y hy => ?_)
 have zy := hy.size
 have b3y : Below w3.heap.size w3 y := b37.trans (hy.mono (by omega))
 have rQy := (row_below b3y (by omega)).trans rQ3
 obtain ⟨y2, hy2⟩ : ∃ x, y.setRow Q #[.int .i64 limit, v0, .slice (some ⟨g, 0, none⟩) 1 cap, .int .i64 d] = x := ⟨_, rfl⟩
 refine ⟨y2, ?_, ⟨trivial, trivial⟩, fun hS => ?_⟩
 ·
  rw [← hy2]
  go_simp
  try exact ⟨_, _, rfl, rfl⟩
 refine wpAnyR_done kr_ (fun w8 b8 => ?_) _
 have zy2 : y2.heap.size = y.heap.size := by rw [← hy2]; simp
 have z8 := b8.size
 have rQ8 : row w8 Q = #[.int .i64 limit, v0, .slice (some ⟨g, 0, none⟩) 1 cap, .int .i64 d] := by
  rw [row_below b8 (by omega), ← hy2]
  exact row_setRow_same (by rw [rQy]; simp) (by rw [rQy]; simp)
 have rG8 : row w8 g = (Value.int .i64 port :: Value.string ⟨s.toArray⟩ :: rest).toArray := by
  rw [row_below b8 (by omega), ← hy2, row_setRow_other _ _ _ (by omega), row_below hy (by omega)]
  exact hr7
 have B8 : BelowBut w.heap.size Q w w8 := (BelowBut.of (B3.trans (b3y.mono (by omega)))).trans ⟨by rw [b8.os, ← hy2]; rfl, by rw [b8.tape, ← hy2]; rfl, by rw [b8.output, ← hy2]; rfl, by omega, fun k hk hne => by rw [b8.block k (by omega), ← hy2, setRow_block_other _ _ _ hne]⟩
 clear hS hy2 rQy b3y hy b8
 go_wp2_with fail
 go_ret
 exact ⟨g, cap, rfl, rQ8, ⟨rest, rG8⟩, ⟨hcap, by omega⟩, by omega, B8⟩
end
section
open Go.RowKit
theorem qTake_none (Q : Nat) (limit d : Int) (a0 a1 : Option Addr) (c0 c1 : Nat) (w : World) (hQ : row w Q = #[.int .i64 limit, .slice a0 0 c0, .slice a1 0 c1, .int .i64 d]) :
  Calls Tryz.prog 45 #[.pointer (some ⟨Q, 0, none⟩)] w fun e w' => e = .returned (.tuple #[.agg #[.int .i64 0, .string ⟨#[]⟩], .bool false, .bool false]) ∧ Below w.heap.size w w' := by
 have zQ : Q < w.heap.size := lt_of_row (i := 0) (by rw [hQ]; simp)
 go_enter Tryz.func45, Tryz.ntmps45
 obtain ⟨w1, hw1⟩ : ∃ x, w.alloc (.cells #[Value.int .i64 0, .string ⟨#[]⟩] 139) = x := ⟨_, rfl⟩
 have b1 : Below w.heap.size w w1 := by rw [← hw1]; exact ba_
 have z1 : w1.heap.size = w.heap.size + 1 := by rw [← hw1, alloc_sizeW]
 have r1 : row w1 w.heap.size = #[Value.int .i64 0, .string ⟨#[]⟩] := by rw [← hw1]; exact row_alloc_at _ _ _ rfl
 obtain ⟨w2, hw2⟩ : ∃ x, w1.alloc (.cells #[Value.int .i64 0, .string ⟨#[]⟩] 139) = x := ⟨_, rfl⟩
 have b2 : Below w.heap.size w w2 := by rw [← hw2]; exact Below.alloc b1 (by omega) _
 have r2 : row w2 w.heap.size = #[Value.int .i64 0, .string ⟨#[]⟩] := by rw [← hw2, row_alloc_past _ _ (by omega)]; exact r1
 have r2' : row w2 (w.heap.size + 1) = #[Value.int .i64 0, .string ⟨#[]⟩] := by rw [← hw2]; exact row_alloc_at _ _ _ z1.symm
 have rQ2 := (row_below b2 zQ).trans hQ
 clear hQ r1
 go_wp2_with fail
 (try clear hw1)
 (try clear hw2)
 clear z1
 refine wp_loop_rounds 3 ?_
 rw [rounds_succ]
 go_wp2_with fail
 rw [rounds_succ]
 go_wp2_with fail
 rw [rounds_succ]
 have hs := setRow_row_eq r2 (by simp)
 go_wp2_with fail
 (try simp only [Exit.inBlock, Exit.then])
 refine bodyPost_ret (results_3 rfl (resOk_row rfl ?_) resOk_tmp resOk_tmp) rfl ?_
 ·
  first | (rw [r2]; simp) | simp [go_sem, r2]
 exact ⟨by first | (rw [r2]; rfl) | simp [go_sem, r2], b2⟩
theorem qTake_0 (Q g cap : Nat) (hcap : 1 ≤ cap) (limit d port : Int) (v1 : Value) (s : List UInt8) (rest : List Value) (w : World) (hQ : row w Q = #[.int .i64 limit, .slice (some ⟨g, 0, none⟩) 1 cap, v1, .int .i64 d]) (hg : row w g = (Value.int .i64 port :: Value.string ⟨s.toArray⟩ :: rest).toArray) (hgQ : g ≠ Q) :
  Calls Tryz.prog 45 #[.pointer (some ⟨Q, 0, none⟩)] w fun e w' => ∃ a, e = .returned (.tuple #[.agg #[.int .i64 port, .string ⟨s.toArray⟩], .bool true, .bool true]) ∧ row w' Q = #[.int .i64 limit, .slice a 0 (cap - 1), v1, .int .i64 d] ∧ BelowBut w.heap.size Q w w' := by
 have zQ : Q < w.heap.size := lt_of_row (i := 0) (by rw [hQ]; simp)
 have zg : g < w.heap.size := lt_of_row (i := 0) (by rw [hg]; simp)
 go_enter Tryz.func45, Tryz.ntmps45
 obtain ⟨w1, hw1⟩ : ∃ x, w.alloc (.cells #[Value.int .i64 0, .string ⟨#[]⟩] 139) = x := ⟨_, rfl⟩
 have b1 : Below w.heap.size w w1 := by rw [← hw1]; exact ba_
 have z1 : w1.heap.size = w.heap.size + 1 := by rw [← hw1, alloc_sizeW]
 have r1 : row w1 w.heap.size = #[Value.int .i64 0, .string ⟨#[]⟩] := by rw [← hw1]; exact row_alloc_at _ _ _ rfl
 obtain ⟨w2, hw2⟩ : ∃ x, w1.alloc (.cells #[Value.int .i64 0, .string ⟨#[]⟩] 139) = x := ⟨_, rfl⟩
 have b2 : Below w.heap.size w w2 := by rw [← hw2]; exact Below.alloc b1 (by omega) _
 have z2 : w2.heap.size = w.heap.size + 2 := by rw [← hw2, alloc_sizeW, z1]
 have r2 : row w2 w.heap.size = #[Value.int .i64 0, .string ⟨#[]⟩] := by rw [← hw2, row_alloc_past _ _ (by omega)]; exact r1
 have rQ2 := (row_below b2 zQ).trans hQ
 have rg2 := (row_below b2 zg).trans hg
 have k1 : w.heap.size < w2.heap.size := by omega
 have k2 : Q < w2.heap.size := by omega
 have k3 : g < w2.heap.size := by omega
 clear hQ hg r1
 go_wp2_with fail
 (try clear hw1)
 (try clear hw2)
 clear z1
 obtain ⟨w3, hw3⟩ : ∃ x, w2.alloc (.cells #[Value.int .i64 port, .string ⟨s.toArray⟩] 139) = x := ⟨_, rfl⟩
 have b3 : Below w2.heap.size w2 w3 := by rw [← hw3]; exact ba_
 have z3 : w3.heap.size = w2.heap.size + 1 := by rw [← hw3, alloc_sizeW]
 have rX3 : row w3 w2.heap.size = #[Value.int .i64 port, .string ⟨s.toArray⟩] := by rw [← hw3]; exact row_alloc_at _ _ _ rfl
 have rQ3 := (row_below b3 k2).trans rQ2
 have r3 := (row_below b3 k1).trans r2
 have B3 : Below w.heap.size w w3 := b2.trans (b3.mono (by omega))
 have j1 : w.heap.size < w3.heap.size := by omega
 have j2 : w2.heap.size < w3.heap.size := by omega
 have hkk : w2.heap.size ≠ Q := by omega
 have hkq : w.heap.size ≠ Q := by omega
 clear z2 z3 b2
 refine wp_loop_rounds 3 ?_
 rw [rounds_succ]
 go_wp2_with fail
 (try clear hw3)
 have cQ3 : w3.cell? ⟨Q, 1, none⟩ = some (.slice (some ⟨g, 0, none⟩) 1 cap) := by rw [cell_of_row' (by rw [rQ3]; simp), rQ3]; rfl
 have hG : GrowP fun W => W.cell? ⟨Q, 1, none⟩ = some (.slice (some ⟨g, 0, none⟩) 1 cap) ∧ Q < W.heap.size := grow_cellQ _ _ _
 refine wp_region_beginKG 12 _ hG rfl ⟨cQ3, by omega⟩ (fun hS => ?_)
 refine kg 0 hG hS ?_
 refine kg 1 hG hS ?_
 refine kg 2 hG hS ?_
 refine kg 3 hG hS ?_
 refine kg 4 hG hS ?_
 refine kg 5 hG hS ?_
 refine kg 6 hG hS ?_
 refine kg 7 hG hS ?_
 refine kg 8 hG hS ?_
 refine kf 9 hG hS ?_
 refine kf 10 hG hS ?_
 refine kg 11 hG hS ?_
 obtain ⟨a, ha⟩ : ∃ a, (if cap = 1 then some (⟨g, 0, none⟩ : Addr) else some ⟨g, 2, none⟩) = a := ⟨_, rfl⟩
 rw [ha]
 refine wpAnyK_store (k := 12) opt_ rfl rfl kr_ (fun y hy => ?_)
 replace hy : Below w3.heap.size w3 y := below_step (Below.drew (Below.refl _ _)) hy
 have zy := hy.size
 have rQy := (row_below hy (by omega)).trans rQ3
 obtain ⟨y2, hy2⟩ : ∃ x, y.setRow Q #[.int .i64 limit, .slice a 0 (cap - 1), v1, .int .i64 d] = x := ⟨_, rfl⟩
 refine ⟨y2, ?_, ⟨trivial, trivial⟩, fun hS => ?_⟩
 ·
  rw [← hy2]
  go_simp
  try exact ⟨_, _, rfl, rfl⟩
 refine wpAnyR_done kr_ (fun w8 b8 => ?_) _
 have zy2 : y2.heap.size = y.heap.size := by rw [← hy2]; simp
 have z8 := b8.size
 have rQ8 : row w8 Q = #[.int .i64 limit, .slice a 0 (cap - 1), v1, .int .i64 d] := by
  rw [row_below b8 (by omega), ← hy2]
  exact row_setRow_same (by rw [rQy]; simp) (by rw [rQy]; simp)
 have rX8 : row w8 w2.heap.size = #[Value.int .i64 port, .string ⟨s.toArray⟩] := by
  rw [row_below b8 (by omega), ← hy2, row_setRow_other _ _ _ hkk, row_below hy (by omega)]
  exact rX3
 have rR8 : row w8 w.heap.size = #[Value.int .i64 0, .string ⟨#[]⟩] := by
  rw [row_below b8 (by omega), ← hy2, row_setRow_other _ _ _ hkq, row_below hy (by omega)]
  exact r3
 have B8 : BelowBut w.heap.size Q w w8 := (BelowBut.of (B3.trans (hy.mono (by omega)))).trans ⟨by rw [b8.os, ← hy2]; rfl, by rw [b8.tape, ← hy2]; rfl, by rw [b8.output, ← hy2]; rfl, by omega, fun k hk hne => by rw [b8.block k (by omega), ← hy2, setRow_block_other _ _ _ hne]⟩
 have HB8 := h_ B8
 have HQ8 := h_ rQ8
 clear hS hy2 rQy hy b8 B3 rQ3 B8 rQ8 rX3 r3
 obtain ⟨w9, hw9⟩ : ∃ x, w8.setRow w.heap.size #[Value.int .i64 port, .string ⟨s.toArray⟩] = x := ⟨_, rfl⟩
 have r9 : row w9 w.heap.size = #[Value.int .i64 port, .string ⟨s.toArray⟩] := by rw [← hw9]; exact row_setRow_same (by rw [rR8]; simp) (by rw [rR8]; simp)
 have q9 : row w9 Q = #[.int .i64 limit, .slice a 0 (cap - 1), v1, .int .i64 d] := by rw [← hw9, row_setRow_other _ _ _ (Ne.symm hkq)]; exact HQ8.out
 have B9 : BelowBut w.heap.size Q w w9 := by rw [← hw9]; exact HB8.out.trans (BelowBut.of (Below.setRow (Below.refl _ _) (Nat.le_refl _) _))
 have HQ9 := h_ q9
 have HB9 := h_ B9
 clear q9 B9 HQ8
 go_wp2_with fail
 (try rw [hw9])
 (try clear hw9)
 (try simp only [Exit.inBlock, Exit.then])
 refine bodyPost_ret (results_3 rfl (resOk_row rfl ?_) resOk_tmp resOk_tmp) rfl ?_
 ·
  rw [r9]; simp
 exact ⟨a, by rw [r9]; rfl, HQ9.out, HB9.out⟩
theorem qTake_1 (Q g cap : Nat) (hcap : 1 ≤ cap) (limit d port : Int) (a0 : Option Addr) (c0 : Nat) (s : List UInt8) (rest : List Value) (w : World) (hQ : row w Q = #[.int .i64 limit, .slice a0 0 c0, .slice (some ⟨g, 0, none⟩) 1 cap, .int .i64 d]) (hg : row w g = (Value.int .i64 port :: Value.string ⟨s.toArray⟩ :: rest).toArray) (hgQ : g ≠ Q) :
  Calls Tryz.prog 45 #[.pointer (some ⟨Q, 0, none⟩)] w fun e w' => ∃ a, e = .returned (.tuple #[.agg #[.int .i64 port, .string ⟨s.toArray⟩], .bool false, .bool true]) ∧ row w' Q = #[.int .i64 limit, .slice a0 0 c0, .slice a 0 (cap - 1), .int .i64 d] ∧ BelowBut w.heap.size Q w w' := by
 have zQ : Q < w.heap.size := lt_of_row (i := 0) (by rw [hQ]; simp)
 have zg : g < w.heap.size := lt_of_row (i := 0) (by rw [hg]; simp)
 go_enter Tryz.func45, Tryz.ntmps45
 obtain ⟨w1, hw1⟩ : ∃ x, w.alloc (.cells #[Value.int .i64 0, .string ⟨#[]⟩] 139) = x := ⟨_, rfl⟩
 have b1 : Below w.heap.size w w1 := by rw [← hw1]; exact ba_
 have z1 : w1.heap.size = w.heap.size + 1 := by rw [← hw1, alloc_sizeW]
 have r1 : row w1 w.heap.size = #[Value.int .i64 0, .string ⟨#[]⟩] := by rw [← hw1]; exact row_alloc_at _ _ _ rfl
 obtain ⟨w2, hw2⟩ : ∃ x, w1.alloc (.cells #[Value.int .i64 0, .string ⟨#[]⟩] 139) = x := ⟨_, rfl⟩
 have b2 : Below w.heap.size w w2 := by rw [← hw2]; exact Below.alloc b1 (by omega) _
 have z2 : w2.heap.size = w.heap.size + 2 := by rw [← hw2, alloc_sizeW, z1]
 have r2 : row w2 w.heap.size = #[Value.int .i64 0, .string ⟨#[]⟩] := by rw [← hw2, row_alloc_past _ _ (by omega)]; exact r1
 have rQ2 := (row_below b2 zQ).trans hQ
 have rg2 := (row_below b2 zg).trans hg
 have k1 : w.heap.size < w2.heap.size := by omega
 have k2 : Q < w2.heap.size := by omega
 have k3 : g < w2.heap.size := by omega
 clear hQ hg r1
 go_wp2_with fail
 (try clear hw1)
 (try clear hw2)
 clear z1
 obtain ⟨w3, hw3⟩ : ∃ x, w2.alloc (.cells #[Value.int .i64 port, .string ⟨s.toArray⟩] 139) = x := ⟨_, rfl⟩
 have b3 : Below w2.heap.size w2 w3 := by rw [← hw3]; exact ba_
 have z3 : w3.heap.size = w2.heap.size + 1 := by rw [← hw3, alloc_sizeW]
 have rX3 : row w3 w2.heap.size = #[Value.int .i64 port, .string ⟨s.toArray⟩] := by rw [← hw3]; exact row_alloc_at _ _ _ rfl
 have rQ3 := (row_below b3 k2).trans rQ2
 have r3 := (row_below b3 k1).trans r2
 have B3 : Below w.heap.size w w3 := b2.trans (b3.mono (by omega))
 have j1 : w.heap.size < w3.heap.size := by omega
 have j2 : w2.heap.size < w3.heap.size := by omega
 have hkk : w2.heap.size ≠ Q := by omega
 have hkq : w.heap.size ≠ Q := by omega
 clear z2 z3 b2
 refine wp_loop_rounds 3 ?_
 rw [rounds_succ]
 go_wp2_with fail
 rw [rounds_succ]
 go_wp2_with fail
 (try clear hw3)
 have cQ3 : w3.cell? ⟨Q, 2, none⟩ = some (.slice (some ⟨g, 0, none⟩) 1 cap) := by rw [cell_of_row' (by rw [rQ3]; simp), rQ3]; rfl
 have hG : GrowP fun W => W.cell? ⟨Q, 2, none⟩ = some (.slice (some ⟨g, 0, none⟩) 1 cap) ∧ Q < W.heap.size := grow_cellQ _ _ _
 refine wp_region_beginKG 12 _ hG rfl ⟨cQ3, by omega⟩ (fun hS => ?_)
 refine kg 0 hG hS ?_
 refine kg 1 hG hS ?_
 refine kg 2 hG hS ?_
 refine kg 3 hG hS ?_
 refine kg 4 hG hS ?_
 refine kg 5 hG hS ?_
 refine kg 6 hG hS ?_
 refine kg 7 hG hS ?_
 refine kg 8 hG hS ?_
 refine kf 9 hG hS ?_
 refine kf 10 hG hS ?_
 refine kg 11 hG hS ?_
 obtain ⟨a, ha⟩ : ∃ a, (if cap = 1 then some (⟨g, 0, none⟩ : Addr) else some ⟨g, 2, none⟩) = a := ⟨_, rfl⟩
 rw [ha]
 refine wpAnyK_store (k := 12) opt_ rfl rfl kr_ (fun y hy => ?_)
 replace hy : Below w3.heap.size w3 y := below_step (Below.drew (Below.refl _ _)) hy
 have zy := hy.size
 have rQy := (row_below hy (by omega)).trans rQ3
 obtain ⟨y2, hy2⟩ : ∃ x, y.setRow Q #[.int .i64 limit, .slice a0 0 c0, .slice a 0 (cap - 1), .int .i64 d] = x := ⟨_, rfl⟩
 refine ⟨y2, ?_, ⟨trivial, trivial⟩, fun hS => ?_⟩
 ·
  rw [← hy2]
  go_simp
  try exact ⟨_, _, rfl, rfl⟩
 refine wpAnyR_done kr_ (fun w8 b8 => ?_) _
 have zy2 : y2.heap.size = y.heap.size := by rw [← hy2]; simp
 have z8 := b8.size
 have rQ8 : row w8 Q = #[.int .i64 limit, .slice a0 0 c0, .slice a 0 (cap - 1), .int .i64 d] := by
  rw [row_below b8 (by omega), ← hy2]
  exact row_setRow_same (by rw [rQy]; simp) (by rw [rQy]; simp)
 have rX8 : row w8 w2.heap.size = #[Value.int .i64 port, .string ⟨s.toArray⟩] := by
  rw [row_below b8 (by omega), ← hy2, row_setRow_other _ _ _ hkk, row_below hy (by omega)]
  exact rX3
 have rR8 : row w8 w.heap.size = #[Value.int .i64 0, .string ⟨#[]⟩] := by
  rw [row_below b8 (by omega), ← hy2, row_setRow_other _ _ _ hkq, row_below hy (by omega)]
  exact r3
 have B8 : BelowBut w.heap.size Q w w8 := (BelowBut.of (B3.trans (hy.mono (by omega)))).trans ⟨by rw [b8.os, ← hy2]; rfl, by rw [b8.tape, ← hy2]; rfl, by rw [b8.output, ← hy2]; rfl, by omega, fun k hk hne => by rw [b8.block k (by omega), ← hy2, setRow_block_other _ _ _ hne]⟩
 have HB8 := h_ B8
 have HQ8 := h_ rQ8
 clear hS hy2 rQy hy b8 B3 rQ3 B8 rQ8 rX3 r3
 obtain ⟨w9, hw9⟩ : ∃ x, w8.setRow w.heap.size #[Value.int .i64 port, .string ⟨s.toArray⟩] = x := ⟨_, rfl⟩
 have r9 : row w9 w.heap.size = #[Value.int .i64 port, .string ⟨s.toArray⟩] := by rw [← hw9]; exact row_setRow_same (by rw [rR8]; simp) (by rw [rR8]; simp)
 have q9 : row w9 Q = #[.int .i64 limit, .slice a0 0 c0, .slice a 0 (cap - 1), .int .i64 d] := by rw [← hw9, row_setRow_other _ _ _ (Ne.symm hkq)]; exact HQ8.out
 have B9 : BelowBut w.heap.size Q w w9 := by rw [← hw9]; exact HB8.out.trans (BelowBut.of (Below.setRow (Below.refl _ _) (Nat.le_refl _) _))
 have HQ9 := h_ q9
 have HB9 := h_ B9
 clear q9 B9 HQ8
 go_wp2_with fail
 (try rw [hw9])
 (try clear hw9)
 (try simp only [Exit.inBlock, Exit.then])
 refine bodyPost_ret (results_3 rfl (resOk_row rfl ?_) resOk_tmp resOk_tmp) rfl ?_
 ·
  rw [r9]; simp
 exact ⟨a, by rw [r9]; rfl, HQ9.out, HB9.out⟩
end
section
open Go.RowKit
theorem isNaN_any (b : Nat) (w : World) : Calls Tryz.prog 211 #[.float .f64 b] w fun e w' => e = .returned (.bool (FloatKind.f64.format.order b b != some Ordering.eq)) ∧ w' = w := by
 go_enter Tryz.func211, Tryz.ntmps211
 go_wp2_with fail
 go_ret
 exact ⟨rfl, rfl⟩
theorem isInf_any (b : Nat) (w : World) : Calls Tryz.prog 213 #[.float .f64 b, .int .i64 1] w fun e w' => e = .returned (.bool (FloatKind.f64.format.order b 9218868437227405311 == some Ordering.gt)) ∧ w' = w := by
 go_enter Tryz.func213, Tryz.ntmps213
 go_wp2_with fail
 go_ret
 exact ⟨rfl, rfl⟩
theorem f64bits_run (b : Nat) (w : World) : (callFunc 256 #[.float .f64 b]).run Tryz.prog w = .ok (.value (.int .u64 (b : Int))) w := by
 rw [run_callFunc_extern Tryz.func256 kr_ kr_ kr_ (e := Go.Extern.MathFloatBits.float64bits) kr_]
 rfl
theorem f64from_run (b : Int) (w : World) : (callFunc 257 #[.int .u64 b]).run Tryz.prog w = .ok (.value (.float .f64 b.toNat)) w := by
 rw [run_callFunc_extern Tryz.func257 kr_ kr_ kr_ (e := Go.Extern.MathFloatBits.float64frombits) kr_]
 rfl
theorem round_any (b : Nat) (w : World) : Calls Tryz.prog 212 #[.float .f64 b] w fun e w' => (∃ v, e = .returned (.float .f64 v)) ∧ w' = w := by
 have h1 := f64bits_run b
 have h2 := f64from_run
 go_enter Tryz.func212, Tryz.ntmps212
 go_wp2_with fail
 all_goals
  go_ret
  exact ⟨⟨_, rfl⟩, rfl⟩
section
variable {P : Program}
theorem quo_some (t : TypeId) (x y : Nat) (w : World) : ∃ v w', (binOp .quo t (.float .f64 x) (.float .f64 y)).run P w = .ok (.float .f64 v) w' ∧ Below w.heap.size w w' := by
 cases h : FloatKind.f64.format.div x y with
 | some r => exact ⟨r, w, run_float_arith (P := P) w .quo t .f64 x y r h, Below.refl _ _⟩
 | none =>
  have hb : (binOp .quo t (.float .f64 x) (.float .f64 y)) = Op.floatArith .quo .f64 x y := by simp [binOp]
  rw [hb]
  unfold Op.floatArith
  simp only [Sem.run_bind, Sem.run_pure, Result.andThen_ok, h, run_choose_drew]
  split
  ·
   exact ⟨_, _, rfl, Below.refl _ _⟩
  ·
   exact ⟨_, _, rfl, Below.drew (Below.refl _ _)⟩
theorem toInt_some (src dst : TypeId) (b : Nat) (w : World) (hs : (P.underlying src).isSome = true) (hd : P.underlying dst = some (.int .i64)) : ∃ n w', (convert src dst (.float .f64 b)).run P w = .ok (.int .i64 n) w' ∧ Below w.heap.size w w' := by
 obtain ⟨u, hs'⟩ := Option.isSome_iff_exists.1 hs
 have hc : (convert src dst (.float .f64 b)).run P w = (Conv.floatToInt .f64 b .i64).run P w := by
  cases u <;> simp [convert, run_underlying hs', run_underlying hd]
 rw [hc]
 unfold Conv.floatToInt
 have any : ∃ n w', ((do pure (.int .i64 (IntKind.i64.wrap (← choose (.floatToInt .f64 b .i64)))) : Sem Value)).run P w = .ok (.int .i64 n) w' ∧ Below w.heap.size w w' := by
  simp only [Sem.run_bind, Sem.run_pure, run_choose_drew]
  split
  ·
   exact ⟨_, _, rfl, Below.refl _ _⟩
  ·
   exact ⟨_, _, rfl, Below.drew (Below.refl _ _)⟩
 cases h : (FloatKind.f64.decode b).toInt .zero with
 | some n =>
  simp only
  split
  ·
   exact ⟨_, _, rfl, Below.refl _ _⟩
  ·
   exact any
 | none => exact any
end
theorem cost_any (b : Nat) (w : World) : Calls Tryz.prog 153 #[.float .f64 b] w fun e w' => (∃ n, e = .returned (.int .i64 n)) ∧ Below w.heap.size w w' := by
 have HR := h_ round_any
 obtain ⟨v1, w1, hq, b1⟩ := quo_some (P := Tryz.prog) 320 4671226772094713856 b w
 go_enter Tryz.func153, Tryz.ntmps153
 go_wp2_with fail
 (with_reducible refine (isNaN_any b w).mono ?_)
 rintro e w2 ⟨rfl, rfl⟩
 generalize (FloatKind.f64.format.order b b != some Ordering.eq) = q1
 cases q1 with
 | true =>
  go_wp2_with fail
  go_ret
  exact ⟨⟨_, rfl⟩, Below.refl _ _⟩
 | false =>
  go_wp2_with fail
  ·
   go_ret
   exact ⟨⟨_, rfl⟩, Below.refl _ _⟩
  (with_reducible refine (HR.out _ _).mono ?_)
  rintro e w3 ⟨⟨v3, rfl⟩, rfl⟩
  obtain ⟨n4, w4, hi, b4⟩ := toInt_some (P := Tryz.prog) 320 3 v3 w3 rfl kr_
  have B4 := b1.trans (b4.mono b1.size)
  clear hq
  go_wp2_with fail
  (with_reducible refine (isInf_any v3 w3).mono ?_)
  rintro e w5 ⟨rfl, rfl⟩
  generalize (FloatKind.f64.format.order v3 9218868437227405311 == some Ordering.gt) = q2
  cases q2 with
  | true =>
   go_wp2_with fail
   go_ret
   exact ⟨⟨_, rfl⟩, b1⟩
  | false =>
   go_wp2_with fail
   all_goals
    go_ret
    first | exact ⟨⟨_, rfl⟩, b1⟩ | exact ⟨⟨_, rfl⟩, B4⟩
end
end Go.Proofs.YtfopoijikdmiaaaGreatDoor
