/- Texts of this proof, merged: LnkY, LnkZ, LnkC, LnkD, LnkE, LnkF. -/
import Derived.Test.YtakkicppgkmokaaGreatJ49
import Derived.Test.YtakkicppgkmokaaGreatAplJ
import Derived.Test.YtakkicppgkmokaaGreatLnkLJ
set_option linter.unusedSimpArgs false
set_option linter.unusedVariables false
set_option maxRecDepth 4000
namespace Go.Proofs.YtakkicppgkmokaaGreat
section
open Go.RowKit
theorem grow_cell (Q j : Nat) (v : Value) : GrowP fun W => W.cell? ⟨Q, j, none⟩ = some v ∧ Q < W.heap.size := fun w w1 h hb => by
 refine ⟨?_, Nat.lt_of_lt_of_le h.2 hb.size⟩
 have := h.1
 unfold World.cell? at this ⊢
 rw [hb.block Q h.2]
 exact this
theorem strInfo15 : (Tryz.prog.info? 9).map (fun i => (i.zero.map (·.cells.size), i.size, i.bytes)) = some (some 1, 1, 16) := by kernel_rfl
set_option maxRecDepth 20000 in
set_option maxHeartbeats 2000000 in
theorem tick0_one (Q A B B0 : Nat) (g0 g1 s0 s1 t0 t1 : Value) (n : Nat) (bad : Bool) (hn : n < 255) (w : World) (hQ : row w Q = pairC (some ⟨A, 0, none⟩) (some ⟨B, 0, none⟩) g0 g1 s0 s1 t0 t1 n bad)
  (base : Nat) (l : List (List Value)) (hown : OwnL w base 9 1 g0 l) (hbase : base ≤ w.heap.size) (hln : l.length ≤ 100) (hB0 : B0 ≤ base) (hBQ : B0 ≤ Q) (hQb : Q < base) (s : List UInt8) (P : World → Prop)
  (HT : ∀ w1, row w1 Q = pairC (some ⟨A, 0, none⟩) (some ⟨B, 0, none⟩) g0 g1 s0 s1 t0 t1 (n + 1) bad → BelowBut w.heap.size Q w w1 → Calls Tryz.prog 16 #[.pointer (some ⟨A, 0, none⟩), .agg (u8s (secL (n + 1))).toArray] w1 fun e w2 =>
   (∃ q, e = .returned (.slice (some ⟨q, 0, none⟩) 1 1) ∧ row w2 q = #[.string ⟨s.toArray⟩]) ∧ (∀ k, k < w1.heap.size → k = Q ∨ g0.ownBlock = some k → w2.heap[k]? = w1.heap[k]?) ∧ Below B0 w1 w2 ∧ P w2) :
  Calls Tryz.prog 43 #[.pointer (some ⟨Q, 0, none⟩), .int .i64 0] w fun e w' => e = .returned (.tuple #[]) ∧ ∃ w2 g', P w2 ∧ (∀ k, k < w2.heap.size → k ≠ Q → g0.ownBlock ≠ some k → w'.heap[k]? = w2.heap[k]?) ∧ w2.heap.size ≤ w'.heap.size ∧
   row w' Q = pairC (some ⟨A, 0, none⟩) (some ⟨B, 0, none⟩) g' g1 s0 s1 t0 t1 (n + 1) bad ∧ OwnL w' base 9 1 g' (l ++ [[.string ⟨s.toArray⟩]]) ∧ Below B0 w w' := by
 have zQ : Q < w.heap.size := lt_of_row (i := 0) (by rw [hQ]; simp [pairC])
 have c0 : w.cell? ⟨Q, 0, none⟩ = some (.pointer (some ⟨A, 0, none⟩)) := by rw [cell_of_row' (by rw [hQ]; simp [pairC]), hQ]; rfl
 have c2 : w.cell? ⟨Q, 2, none⟩ = some g0 := by rw [cell_of_row' (by rw [hQ]; simp [pairC]), hQ]; rfl
 have HQ := Lib.hid hQ
 have HW := Lib.hid hown
 have HT2 := Lib.hid HT
 have hgQ : g0.ownBlock ≠ some Q := fun e => by have := (hown.blk e).1; omega
 clear hQ hown HT
 go_enter Tryz.func43, Tryz.ntmps43
 have hG : GrowP fun W => (W.cell? ⟨Q, 0, none⟩ = some (.pointer (some ⟨A, 0, none⟩)) ∧ Q < W.heap.size) ∧ (W.cell? ⟨Q, 2, none⟩ = some g0 ∧ Q < W.heap.size) := GrowP.and (grow_cell _ _ _) (grow_cell _ _ _)
 refine wp_region_beginKG 21 _ hG rfl ⟨⟨c0, zQ⟩, c2, zQ⟩ (fun hS => ?_)
 refine kg 0 hG hS ?_
 refine kg 1 hG hS ?_
 refine kg 2 hG hS ?_
 refine kg 3 hG hS ?_
 refine kg 4 hG hS ?_
 refine kg 5 hG hS ?_
 refine kg 6 hG hS ?_
 refine kg 7 hG hS ?_
 refine kg 8 hG hS ?_
 refine kg 9 hG hS ?_
 refine kg 10 hG hS ?_
 refine kg 11 hG hS ?_
 refine kg 12 hG hS ?_
 refine kg 13 hG hS ?_
 refine kg 14 hG hS ?_
 refine kf 18 hG hS ?_
 refine kf 19 hG hS ?_
 refine wpAnyK_op1 15 (by kernel_rfl) (by decide) (fun u1 hu1 => ?_)
 replace hu1 : Below w.heap.size w u1 := below_step (Below.drew (Below.refl _ _)) hu1
 have zu1 := hu1.size
 have rQu := (row_below hu1 zQ).trans HQ.out
 refine wpOp_step rfl (fun K hK => ?_)
 clear hS
 go_simp
 refine (draw_any Q _ _ g0 g1 s0 s1 t0 t1 n bad hn u1 rQu).mono ?_
 rintro e w1 ⟨rfl, rQ1, b1⟩
 have z1 := b1.size
 have c01 : w1.cell? ⟨Q, 0, none⟩ = some (.pointer (some ⟨A, 0, none⟩)) := by rw [cell_of_row' (by rw [rQ1]; simp [pairC]), rQ1]; rfl
 have c21 : w1.cell? ⟨Q, 2, none⟩ = some g0 := by rw [cell_of_row' (by rw [rQ1]; simp [pairC]), rQ1]; rfl
 have hS : XS [] (fun W => (W.cell? ⟨Q, 0, none⟩ = some (.pointer (some ⟨A, 0, none⟩)) ∧ Q < W.heap.size) ∧ (W.cell? ⟨Q, 2, none⟩ = some g0 ∧ Q < W.heap.size)) w1 := ⟨trivial, ⟨c01, by omega⟩, c21, by omega⟩
 refine hK _ _ ⟨hS, ?_⟩
 clear hK K
 (try simp only [Act.put, List.setIfInBounds_toArray, List.set_cons_zero, List.set_cons_succ])
 refine wpAnyK_op1 16 (by kernel_rfl) (by decide) (fun u2 hu2 => ?_)
 have zu2 := hu2.size
 have rQu2 := (row_below hu2 (by omega)).trans rQ1
 have B2 : BelowBut w.heap.size Q w u2 := (BelowBut.of hu1).trans ((b1.mono (by omega)).trans ((BelowBut.of hu2).mono (by omega)))
 refine wpOp_step rfl (fun K hK => ?_)
 clear hS
 go_simp
 refine (HT2.out u2 rQu2 B2).mono ?_
 rintro e w2 ⟨⟨q, rfl, rq⟩, hk2, b2, hP⟩
 have z2 := b2.size
 have rQ2 := (row_of_block (hk2 Q (by omega) (.inl rfl))).trans rQu2
 have c02 : w2.cell? ⟨Q, 0, none⟩ = some (.pointer (some ⟨A, 0, none⟩)) := by rw [cell_of_row' (by rw [rQ2]; simp [pairC]), rQ2]; rfl
 have c22 : w2.cell? ⟨Q, 2, none⟩ = some g0 := by rw [cell_of_row' (by rw [rQ2]; simp [pairC]), rQ2]; rfl
 have hS : XS [] (fun W => (W.cell? ⟨Q, 0, none⟩ = some (.pointer (some ⟨A, 0, none⟩)) ∧ Q < W.heap.size) ∧ (W.cell? ⟨Q, 2, none⟩ = some g0 ∧ Q < W.heap.size)) w2 := ⟨trivial, ⟨c02, by omega⟩, c22, by omega⟩
 refine hK _ _ ⟨hS, ?_⟩
 clear hK K
 (try simp only [Act.put, List.setIfInBounds_toArray, List.set_cons_zero, List.set_cons_succ])
 refine wpAnyK_op1 17 (by kernel_rfl) (by decide) (fun u3 hu3 => ?_)
 have zu3 := hu3.size
 have hown3 : OwnL u3 base 9 1 g0 l := HW.out.keep fun k hk => by
  have h3 := (HW.out.blk hk).2.1
  rw [hu3.block k (by omega), hk2 k (by omega) (.inr hk), B2.block k h3 (fun e => hgQ (e ▸ hk))]
 have rq3 := (row_below hu3 (lt_of_row (i := 0) (by rw [rq]; simp))).trans rq
 have rQ3 := (row_below hu3 (by omega)).trans rQ2
 refine wpOp_wp (by simp only [List.getElem?_toArray, List.getElem?_cons_succ, List.getElem?_cons_zero]; rfl) rfl ?_
 refine wp_appendL (t := 50) rfl Tryz.underlying50 strInfo15 (by decide) (by decide) base _ l rfl hown3 q 1 [.string ⟨s.toArray⟩] rfl rq3 rfl rfl (by omega) (by omega) ?_
 intro g' w4 hown4 b4 hk4
 obtain ⟨ga, gc, hge, _⟩ := hown4.elems
 obtain ⟨gn, hgn⟩ : ∃ x, (l ++ [[Value.string ⟨s.toArray⟩]]).length = x := ⟨_, rfl⟩
 rw [hgn] at hge
 subst hge
 have z4 := b4.size
 have rQ4 := (row_of_block (hk4 Q (by omega) hgQ)).trans rQ3
 have c04 : w4.cell? ⟨Q, 0, none⟩ = some (.pointer (some ⟨A, 0, none⟩)) := by rw [cell_of_row' (by rw [rQ4]; simp [pairC]), rQ4]; rfl
 have c24 : w4.cell? ⟨Q, 2, none⟩ = some g0 := by rw [cell_of_row' (by rw [rQ4]; simp [pairC]), rQ4]; rfl
 have hS : XS [] (fun W => (W.cell? ⟨Q, 0, none⟩ = some (.pointer (some ⟨A, 0, none⟩)) ∧ Q < W.heap.size) ∧ (W.cell? ⟨Q, 2, none⟩ = some g0 ∧ Q < W.heap.size)) w4 := ⟨trivial, ⟨c04, by omega⟩, c24, by omega⟩
 refine ⟨hS, ?_⟩
 (try simp only [Act.put, List.setIfInBounds_toArray, List.set_cons_zero, List.set_cons_succ])
 refine kg 20 hG hS ?_
 refine wpAnyK_store (k := 21) (by simp only [List.getElem?_toArray, List.getElem?_cons_succ, List.getElem?_cons_zero]; rfl) rfl rfl (by kernel_rfl) (fun y hy => ?_)
 have zy := hy.size
 have rQy := (row_below hy (by omega)).trans rQ4
 unfold pairC at rQy
 obtain ⟨y2, hy2⟩ : ∃ x, y.setRow Q #[.pointer (some ⟨A, 0, none⟩), .pointer (some ⟨B, 0, none⟩), (.slice ga gn gc), g1, s0, s1, t0, t1, .int .i64 ((n + 1 : Nat) : Int), .bool bad] = x := ⟨_, rfl⟩
 have zy2 : y2.heap.size = y.heap.size := by rw [← hy2]; simp
 refine ⟨y2, ?_, ⟨trivial, trivial⟩, fun hS => ?_⟩
 ·
  rw [← hy2]
  go_simp
  try exact ⟨_, _, rfl, rfl⟩
 refine wpAnyR_done (by kernel_rfl) (fun w5 b5 => ?_) _
 have z5 := b5.size
 have hk5 : ∀ k, k < w4.heap.size → k ≠ Q → w5.heap[k]? = w4.heap[k]? := fun k hk hne => by
  rw [b5.block k (by omega), ← hy2, setRow_block_other _ _ _ hne, hy.block k hk]
 have rQ5 : row w5 Q = #[.pointer (some ⟨A, 0, none⟩), .pointer (some ⟨B, 0, none⟩), (.slice ga gn gc), g1, s0, s1, t0, t1, .int .i64 ((n + 1 : Nat) : Int), .bool bad] := by
  rw [row_below b5 (by omega), ← hy2]
  exact row_setRow_same (by rw [rQy]; simp) (by rw [rQy]; simp)
 have hown5 : OwnL w5 base 9 1 (.slice ga gn gc) (l ++ [[.string ⟨s.toArray⟩]]) := hown4.keep fun k hk => by
  obtain ⟨h1, h2, cur, h3⟩ := hown4.blk hk
  refine hk5 k h2 fun e => ?_
  omega
 have B5 : Below B0 w w5 := by
  refine (B2.mono (B' := B0) (by omega)).below hBQ |>.trans ?_
  refine b2.trans ?_
  refine (hu3.mono (by omega)).trans ?_
  refine (b4.mono hB0).trans ?_
  refine (hy.mono (by omega)).trans ?_
  refine Below.trans ?_ (b5.mono (by omega))
  rw [← hy2]
  exact Below.setRow (Below.refl _ _) hBQ _
 clear hS hy2 rQy rQ4 rQ3 rQ2 rQu rQu2 rQ1 HQ hu1 hu2
 go_wp2_with fail
 go_end0
 refine ⟨rfl, w2, .slice ga gn gc, hP, fun k hk hne hg => ?_, by omega, rQ5, hown5, B5⟩
 rw [hk5 k (by omega) hne, hk4 k (by omega) hg, hu3.block k hk]
set_option maxRecDepth 20000 in
set_option maxHeartbeats 2000000 in
theorem tick1_none (Q A B B0 : Nat) (g0 g1 s0 s1 t0 t1 : Value) (n : Nat) (bad : Bool) (hn : n < 255) (w : World) (hQ : row w Q = pairC (some ⟨A, 0, none⟩) (some ⟨B, 0, none⟩) g0 g1 s0 s1 t0 t1 n bad)
  (base : Nat) (l : List (List Value)) (hown : OwnL w base 9 1 g1 l) (hbase : base ≤ w.heap.size) (hln : l.length ≤ 100) (hB0 : B0 ≤ w.heap.size) (hBQ : B0 ≤ Q) (hQb : Q < base) (P : World → Prop)
  (HT : ∀ w1, row w1 Q = pairC (some ⟨A, 0, none⟩) (some ⟨B, 0, none⟩) g0 g1 s0 s1 t0 t1 (n + 1) bad → BelowBut w.heap.size Q w w1 → Calls Tryz.prog 16 #[.pointer (some ⟨B, 0, none⟩), .agg (u8s (secL (n + 1))).toArray] w1 fun e w2 =>
   e = .returned (.slice none 0 0) ∧ (∀ k, k < w1.heap.size → k = Q ∨ g1.ownBlock = some k → w2.heap[k]? = w1.heap[k]?) ∧ Below B0 w1 w2 ∧ P w2) :
  Calls Tryz.prog 43 #[.pointer (some ⟨Q, 0, none⟩), .int .i64 1] w fun e w' => e = .returned (.tuple #[]) ∧ ∃ w2, P w2 ∧ (∀ k, k < w2.heap.size → k ≠ Q → w'.heap[k]? = w2.heap[k]?) ∧ w2.heap.size ≤ w'.heap.size ∧
   row w' Q = pairC (some ⟨A, 0, none⟩) (some ⟨B, 0, none⟩) g0 g1 s0 s1 t0 t1 (n + 1) bad ∧ Below B0 w w' := by
 have zQ : Q < w.heap.size := lt_of_row (i := 0) (by rw [hQ]; simp [pairC])
 have c0 : w.cell? ⟨Q, 1, none⟩ = some (.pointer (some ⟨B, 0, none⟩)) := by rw [cell_of_row' (by rw [hQ]; simp [pairC]), hQ]; rfl
 have c2 : w.cell? ⟨Q, 3, none⟩ = some g1 := by rw [cell_of_row' (by rw [hQ]; simp [pairC]), hQ]; rfl
 have HQ := Lib.hid hQ
 have HW := Lib.hid hown
 have HT2 := Lib.hid HT
 have hgQ : g1.ownBlock ≠ some Q := fun e => by have := (hown.blk e).1; omega
 clear hQ hown HT
 go_enter Tryz.func43, Tryz.ntmps43
 have hG : GrowP fun W => (W.cell? ⟨Q, 1, none⟩ = some (.pointer (some ⟨B, 0, none⟩)) ∧ Q < W.heap.size) ∧ (W.cell? ⟨Q, 3, none⟩ = some g1 ∧ Q < W.heap.size) := GrowP.and (grow_cell _ _ _) (grow_cell _ _ _)
 refine wp_region_beginKG 21 _ hG rfl ⟨⟨c0, zQ⟩, c2, zQ⟩ (fun hS => ?_)
 refine kg 0 hG hS ?_
 refine kg 1 hG hS ?_
 refine kg 2 hG hS ?_
 refine kg 3 hG hS ?_
 refine kg 4 hG hS ?_
 refine kg 5 hG hS ?_
 refine kg 6 hG hS ?_
 refine kg 7 hG hS ?_
 refine kg 8 hG hS ?_
 refine kg 9 hG hS ?_
 refine kg 10 hG hS ?_
 refine kg 11 hG hS ?_
 refine kg 12 hG hS ?_
 refine kg 13 hG hS ?_
 refine kg 14 hG hS ?_
 refine kf 18 hG hS ?_
 refine kf 19 hG hS ?_
 refine wpAnyK_op1 15 (by kernel_rfl) (by decide) (fun u1 hu1 => ?_)
 replace hu1 : Below w.heap.size w u1 := below_step (Below.drew (Below.refl _ _)) hu1
 have zu1 := hu1.size
 have rQu := (row_below hu1 zQ).trans HQ.out
 refine wpOp_step rfl (fun K hK => ?_)
 clear hS
 go_simp
 refine (draw_any Q _ _ g0 g1 s0 s1 t0 t1 n bad hn u1 rQu).mono ?_
 rintro e w1 ⟨rfl, rQ1, b1⟩
 have z1 := b1.size
 have c01 : w1.cell? ⟨Q, 1, none⟩ = some (.pointer (some ⟨B, 0, none⟩)) := by rw [cell_of_row' (by rw [rQ1]; simp [pairC]), rQ1]; rfl
 have c21 : w1.cell? ⟨Q, 3, none⟩ = some g1 := by rw [cell_of_row' (by rw [rQ1]; simp [pairC]), rQ1]; rfl
 have hS : XS [] (fun W => (W.cell? ⟨Q, 1, none⟩ = some (.pointer (some ⟨B, 0, none⟩)) ∧ Q < W.heap.size) ∧ (W.cell? ⟨Q, 3, none⟩ = some g1 ∧ Q < W.heap.size)) w1 := ⟨trivial, ⟨c01, by omega⟩, c21, by omega⟩
 refine hK _ _ ⟨hS, ?_⟩
 clear hK K
 (try simp only [Act.put, List.setIfInBounds_toArray, List.set_cons_zero, List.set_cons_succ])
 refine wpAnyK_op1 16 (by kernel_rfl) (by decide) (fun u2 hu2 => ?_)
 have zu2 := hu2.size
 have rQu2 := (row_below hu2 (by omega)).trans rQ1
 have B2 : BelowBut w.heap.size Q w u2 := (BelowBut.of hu1).trans ((b1.mono (by omega)).trans ((BelowBut.of hu2).mono (by omega)))
 refine wpOp_step rfl (fun K hK => ?_)
 clear hS
 go_simp
 refine (HT2.out u2 rQu2 B2).mono ?_
 rintro e w2 ⟨rfl, hk2, b2, hP⟩
 have z2 := b2.size
 have rQ2 := (row_of_block (hk2 Q (by omega) (.inl rfl))).trans rQu2
 have c02 : w2.cell? ⟨Q, 1, none⟩ = some (.pointer (some ⟨B, 0, none⟩)) := by rw [cell_of_row' (by rw [rQ2]; simp [pairC]), rQ2]; rfl
 have c22 : w2.cell? ⟨Q, 3, none⟩ = some g1 := by rw [cell_of_row' (by rw [rQ2]; simp [pairC]), rQ2]; rfl
 have hS : XS [] (fun W => (W.cell? ⟨Q, 1, none⟩ = some (.pointer (some ⟨B, 0, none⟩)) ∧ Q < W.heap.size) ∧ (W.cell? ⟨Q, 3, none⟩ = some g1 ∧ Q < W.heap.size)) w2 := ⟨trivial, ⟨c02, by omega⟩, c22, by omega⟩
 refine hK _ _ ⟨hS, ?_⟩
 clear hK K
 (try simp only [Act.put, List.setIfInBounds_toArray, List.set_cons_zero, List.set_cons_succ])
 refine wpAnyK_op1 17 (by kernel_rfl) (by decide) (fun u3 hu3 => ?_)
 have zu3 := hu3.size
 have hown3 : OwnL u3 base 9 1 g1 l := HW.out.keep fun k hk => by
  have h3 := (HW.out.blk hk).2.1
  rw [hu3.block k (by omega), hk2 k (by omega) (.inr hk), B2.block k h3 (fun e => hgQ (e ▸ hk))]
 have rQ3 := (row_below hu3 (by omega)).trans rQ2
 refine wpOp_wp (by simp only [List.getElem?_toArray, List.getElem?_cons_succ, List.getElem?_cons_zero]; rfl) rfl ?_
 refine wp_appendN (t := 50) rfl Tryz.underlying50 strInfo15 base _ l rfl hown3 rfl ?_
 obtain ⟨ga, gc, hge, _⟩ := hown3.elems
 obtain ⟨gn, hgn⟩ : ∃ x, l.length = x := ⟨_, rfl⟩
 rw [hgn] at hge
 subst hge
 have c04 : u3.cell? ⟨Q, 1, none⟩ = some (.pointer (some ⟨B, 0, none⟩)) := by rw [cell_of_row' (by rw [rQ3]; simp [pairC]), rQ3]; rfl
 have c24 : u3.cell? ⟨Q, 3, none⟩ = some (.slice ga gn gc) := by rw [cell_of_row' (by rw [rQ3]; simp [pairC]), rQ3]; rfl
 have hS : XS [] (fun W => (W.cell? ⟨Q, 1, none⟩ = some (.pointer (some ⟨B, 0, none⟩)) ∧ Q < W.heap.size) ∧ (W.cell? ⟨Q, 3, none⟩ = some (.slice ga gn gc) ∧ Q < W.heap.size)) u3 := ⟨trivial, ⟨c04, by omega⟩, c24, by omega⟩
 refine ⟨hS, ?_⟩
 (try simp only [Act.put, List.setIfInBounds_toArray, List.set_cons_zero, List.set_cons_succ])
 refine kg 20 hG hS ?_
 refine wpAnyK_store (k := 21) (by simp only [List.getElem?_toArray, List.getElem?_cons_succ, List.getElem?_cons_zero]; rfl) rfl rfl (by kernel_rfl) (fun y hy => ?_)
 have zy := hy.size
 have rQy := (row_below hy (by omega)).trans rQ3
 unfold pairC at rQy
 obtain ⟨y2, hy2⟩ : ∃ x, y.setRow Q #[.pointer (some ⟨A, 0, none⟩), .pointer (some ⟨B, 0, none⟩), g0, (.slice ga gn gc), s0, s1, t0, t1, .int .i64 ((n + 1 : Nat) : Int), .bool bad] = x := ⟨_, rfl⟩
 have zy2 : y2.heap.size = y.heap.size := by rw [← hy2]; simp
 refine ⟨y2, ?_, ⟨trivial, trivial⟩, fun hS => ?_⟩
 ·
  rw [← hy2]
  go_simp
  try exact ⟨_, _, rfl, rfl⟩
 refine wpAnyR_done (by kernel_rfl) (fun w5 b5 => ?_) _
 have z5 := b5.size
 have hk5 : ∀ k, k < u3.heap.size → k ≠ Q → w5.heap[k]? = u3.heap[k]? := fun k hk hne => by
  rw [b5.block k (by omega), ← hy2, setRow_block_other _ _ _ hne, hy.block k hk]
 have rQ5 : row w5 Q = #[.pointer (some ⟨A, 0, none⟩), .pointer (some ⟨B, 0, none⟩), g0, (.slice ga gn gc), s0, s1, t0, t1, .int .i64 ((n + 1 : Nat) : Int), .bool bad] := by
  rw [row_below b5 (by omega), ← hy2]
  exact row_setRow_same (by rw [rQy]; simp) (by rw [rQy])
 have B5 : Below B0 w w5 := by
  refine (B2.mono (B' := B0) (by omega)).below hBQ |>.trans ?_
  refine b2.trans ?_
  refine (hu3.mono (by omega)).trans ?_
  refine (hy.mono (by omega)).trans ?_
  refine Below.trans ?_ (b5.mono (by omega))
  rw [← hy2]
  exact Below.setRow (Below.refl _ _) hBQ _
 clear hS hy2 rQy rQ3 rQ2 rQu rQu2 rQ1 HQ hu1 hu2
 go_wp2_with fail
 go_end0
 refine ⟨rfl, w2, hP, fun k hk hne => ?_, by omega, rQ5, B5⟩
 rw [hk5 k (by omega) hne, hu3.block k hk]
end
section
open Go.RowKit
set_option maxRecDepth 20000 in
set_option maxHeartbeats 2000000 in
theorem come1_one (Q A B B0 : Nat) (g0 g1 s0 s1 t0 t1 : Value) (n : Nat) (bad : Bool) (hn : n < 255) (w : World) (hQ : row w Q = pairC (some ⟨A, 0, none⟩) (some ⟨B, 0, none⟩) g0 g1 s0 s1 t0 t1 n bad)
  (base : Nat) (l : List (List Value)) (hown : OwnL w base 9 1 g1 l) (hbase : base ≤ w.heap.size) (hln : l.length ≤ 100) (hB0 : B0 ≤ base) (hBQ : B0 ≤ Q) (hQb : Q < base) (s o : List UInt8) (P : World → Prop)
  (HT : ∀ w1, row w1 Q = pairC (some ⟨A, 0, none⟩) (some ⟨B, 0, none⟩) g0 g1 s0 s1 t0 t1 (n + 1) bad → BelowBut w.heap.size Q w w1 → Calls Tryz.prog 21 #[.pointer (some ⟨B, 0, none⟩), .string ⟨s.toArray⟩, .agg (u8s (secL (n + 1))).toArray] w1 fun e w2 =>
   (∃ q, e = .returned (.tuple #[.string ⟨#[]⟩, .slice (some ⟨q, 0, none⟩) 1 1, .int .i64 0]) ∧ row w2 q = #[.string ⟨o.toArray⟩]) ∧ (∀ k, k < w1.heap.size → k = Q ∨ g1.ownBlock = some k → w2.heap[k]? = w1.heap[k]?) ∧ Below B0 w1 w2 ∧ P w2) :
  Calls Tryz.prog 44 #[.pointer (some ⟨Q, 0, none⟩), .int .i64 1, .string ⟨s.toArray⟩] w fun e w' => e = .returned (.int .i64 0) ∧ ∃ w2 g', P w2 ∧ (∀ k, k < w2.heap.size → k ≠ Q → g1.ownBlock ≠ some k → w'.heap[k]? = w2.heap[k]?) ∧ w2.heap.size ≤ w'.heap.size ∧
   row w' Q = pairC (some ⟨A, 0, none⟩) (some ⟨B, 0, none⟩) g0 g' s0 s1 t0 t1 (n + 1) bad ∧ OwnL w' base 9 1 g' (l ++ [[.string ⟨o.toArray⟩]]) ∧ Below B0 w w' := by
 have zQ : Q < w.heap.size := lt_of_row (i := 0) (by rw [hQ]; simp [pairC])
 have c0 : w.cell? ⟨Q, 1, none⟩ = some (.pointer (some ⟨B, 0, none⟩)) := by rw [cell_of_row' (by rw [hQ]; simp [pairC]), hQ]; rfl
 have c2 : w.cell? ⟨Q, 3, none⟩ = some g1 := by rw [cell_of_row' (by rw [hQ]; simp [pairC]), hQ]; rfl
 have HQ := Lib.hid hQ
 have HW := Lib.hid hown
 have HT2 := Lib.hid HT
 have hgQ : g1.ownBlock ≠ some Q := fun e => by have := (hown.blk e).1; omega
 clear hQ hown HT
 go_enter Tryz.func44, Tryz.ntmps44
 go_wp2_with fail
 have hG : GrowP fun W => (W.cell? ⟨Q, 1, none⟩ = some (.pointer (some ⟨B, 0, none⟩)) ∧ Q < W.heap.size) ∧ (W.cell? ⟨Q, 3, none⟩ = some g1 ∧ Q < W.heap.size) := GrowP.and (grow_cell _ _ _) (grow_cell _ _ _)
 refine wp_region_beginX [] (fun W => (W.cell? ⟨Q, 1, none⟩ = some (.pointer (some ⟨B, 0, none⟩)) ∧ Q < W.heap.size) ∧ (W.cell? ⟨Q, 3, none⟩ = some g1 ∧ Q < W.heap.size)) hG rfl trivial ⟨⟨c0, zQ⟩, c2, zQ⟩ (fun hS => ?_)
 refine sp 0 hG hS ?_
 refine sp 1 hG hS ?_
 refine sp 2 hG hS ?_
 refine sp 3 hG hS ?_
 refine sp 4 hG hS ?_
 refine sp 5 hG hS ?_
 refine sp 6 hG hS ?_
 refine sp 7 hG hS ?_
 refine wpAnyR_opX 8 (by kernel_rfl) (fun u1 hu1 => ?_)
 replace hu1 : Below w.heap.size w u1 := below_step (Below.drew (Below.refl _ _)) hu1
 have zu1 := hu1.size
 have rQu := (row_below hu1 zQ).trans HQ.out
 refine wpOp_step rfl (fun K hK => ?_)
 clear hS
 go_simp
 refine (draw_any Q _ _ g0 g1 s0 s1 t0 t1 n bad hn u1 rQu).mono ?_
 rintro e w1 ⟨rfl, rQ1, b1⟩
 have z1 := b1.size
 have c0w1 : w1.cell? ⟨Q, 1, none⟩ = some (.pointer (some ⟨B, 0, none⟩)) := by rw [cell_of_row' (by rw [rQ1]; simp [pairC]), rQ1]; rfl
 have c2w1 : w1.cell? ⟨Q, 3, none⟩ = some g1 := by rw [cell_of_row' (by rw [rQ1]; simp [pairC]), rQ1]; rfl
 have hS : XS [] (fun W => (W.cell? ⟨Q, 1, none⟩ = some (.pointer (some ⟨B, 0, none⟩)) ∧ Q < W.heap.size) ∧ (W.cell? ⟨Q, 3, none⟩ = some g1 ∧ Q < W.heap.size)) w1 := ⟨trivial, ⟨c0w1, by omega⟩, c2w1, by omega⟩
 refine hK _ _ ⟨hS, ?_⟩
 clear hK K
 (try simp only [Act.put, List.setIfInBounds_toArray, List.set_cons_zero, List.set_cons_succ])
 refine wpAnyR_opX 9 (by kernel_rfl) (fun u2 hu2 => ?_)
 have zu2 := hu2.size
 have rQu2 := (row_below hu2 (by omega)).trans rQ1
 have B2 : BelowBut w.heap.size Q w u2 := (BelowBut.of hu1).trans ((b1.mono (by omega)).trans ((BelowBut.of hu2).mono (by omega)))
 refine wpOp_step rfl (fun K hK => ?_)
 clear hS
 go_simp
 refine (HT2.out u2 rQu2 B2).mono ?_
 rintro e w2 ⟨⟨q, rfl, rq⟩, hk2, b2, hP⟩
 have z2 := b2.size
 have rQ2 := (row_of_block (hk2 Q (by omega) (.inl rfl))).trans rQu2
 have c0w2 : w2.cell? ⟨Q, 1, none⟩ = some (.pointer (some ⟨B, 0, none⟩)) := by rw [cell_of_row' (by rw [rQ2]; simp [pairC]), rQ2]; rfl
 have c2w2 : w2.cell? ⟨Q, 3, none⟩ = some g1 := by rw [cell_of_row' (by rw [rQ2]; simp [pairC]), rQ2]; rfl
 have hS : XS [] (fun W => (W.cell? ⟨Q, 1, none⟩ = some (.pointer (some ⟨B, 0, none⟩)) ∧ Q < W.heap.size) ∧ (W.cell? ⟨Q, 3, none⟩ = some g1 ∧ Q < W.heap.size)) w2 := ⟨trivial, ⟨c0w2, by omega⟩, c2w2, by omega⟩
 refine hK _ _ ⟨hS, ?_⟩
 clear hK K
 (try simp only [Act.put, List.setIfInBounds_toArray, List.set_cons_zero, List.set_cons_succ])
 refine sp 10 hG hS ?_
 refine sp 11 hG hS ?_
 refine sp 12 hG hS ?_
 refine sp 13 hG hS ?_
 refine sp 14 hG hS ?_
 refine sp 15 hG hS ?_
 refine sp 16 hG hS ?_
 refine wpAnyR_done (by kernel_rfl) (fun u3 bu3 => ?_) _
 have zu3 := bu3.size
 have hown3 : OwnL u3 base 9 1 g1 l := HW.out.keep fun k hk => by
  have h3 := (HW.out.blk hk).2.1
  rw [bu3.block k (by omega), hk2 k (by omega) (.inr hk), B2.block k h3 (fun e => hgQ (e ▸ hk))]
 have rq3 := (row_below bu3 (lt_of_row (i := 0) (by rw [rq]; simp))).trans rq
 have rQ3 := (row_below bu3 (by omega)).trans rQ2
 have c0u3 : u3.cell? ⟨Q, 1, none⟩ = some (.pointer (some ⟨B, 0, none⟩)) := by rw [cell_of_row' (by rw [rQ3]; simp [pairC]), rQ3]; rfl
 have c2u3 : u3.cell? ⟨Q, 3, none⟩ = some g1 := by rw [cell_of_row' (by rw [rQ3]; simp [pairC]), rQ3]; rfl
 have hX3 : XS [] (fun W => (W.cell? ⟨Q, 1, none⟩ = some (.pointer (some ⟨B, 0, none⟩)) ∧ Q < W.heap.size) ∧ (W.cell? ⟨Q, 3, none⟩ = some g1 ∧ Q < W.heap.size)) u3 := ⟨trivial, ⟨c0u3, by omega⟩, c2u3, by omega⟩
 clear hS
 go_wp2_with fail
 refine wp_region_beginKG 13 _ hG rfl ⟨⟨c0u3, by omega⟩, c2u3, by omega⟩ (fun hS => ?_)
 refine kg 0 hG hS ?_
 refine kg 1 hG hS ?_
 refine kg 2 hG hS ?_
 refine kg 3 hG hS ?_
 refine kg 4 hG hS ?_
 refine kg 5 hG hS ?_
 refine kg 6 hG hS ?_
 refine kg 7 hG hS ?_
 refine kg 8 hG hS ?_
 refine kf 10 hG hS ?_
 refine kf 11 hG hS ?_
 refine wpAnyK_op1 9 (by kernel_rfl) (by decide) (fun u4 hu4 => ?_)
 replace hu4 : Below u3.heap.size u3 u4 := below_step (Below.drew (Below.refl _ _)) hu4
 have zu4 := hu4.size
 have hown4 := hown3.below hu4
 have rq4 := (row_below hu4 (lt_of_row (i := 0) (by rw [rq3]; simp))).trans rq3
 have rQ4 := (row_below hu4 (by omega)).trans rQ3
 refine wpOp_wp (by simp only [List.getElem?_toArray, List.getElem?_cons_succ, List.getElem?_cons_zero]; rfl) rfl ?_
 refine wp_appendL (t := 50) rfl Tryz.underlying50 strInfo15 (by decide) (by decide) base _ l rfl hown4 q 1 [.string ⟨o.toArray⟩] rfl rq4 rfl rfl (by omega) (by omega) ?_
 intro g' w4 hown5 b4 hk4
 obtain ⟨ga, gc, hge, _⟩ := hown5.elems
 obtain ⟨gn, hgn⟩ : ∃ x, (l ++ [[Value.string ⟨o.toArray⟩]]).length = x := ⟨_, rfl⟩
 rw [hgn] at hge
 subst hge
 have z4 := b4.size
 have rQ5 := (row_of_block (hk4 Q (by omega) hgQ)).trans rQ4
 have c0w4 : w4.cell? ⟨Q, 1, none⟩ = some (.pointer (some ⟨B, 0, none⟩)) := by rw [cell_of_row' (by rw [rQ5]; simp [pairC]), rQ5]; rfl
 have c2w4 : w4.cell? ⟨Q, 3, none⟩ = some g1 := by rw [cell_of_row' (by rw [rQ5]; simp [pairC]), rQ5]; rfl
 replace hS : XS [] (fun W => (W.cell? ⟨Q, 1, none⟩ = some (.pointer (some ⟨B, 0, none⟩)) ∧ Q < W.heap.size) ∧ (W.cell? ⟨Q, 3, none⟩ = some g1 ∧ Q < W.heap.size)) w4 := ⟨trivial, ⟨c0w4, by omega⟩, c2w4, by omega⟩
 refine ⟨hS, ?_⟩
 (try simp only [Act.put, List.setIfInBounds_toArray, List.set_cons_zero, List.set_cons_succ])
 refine kg 12 hG hS ?_
 refine wpAnyK_store (k := 13) (by simp only [List.getElem?_toArray, List.getElem?_cons_succ, List.getElem?_cons_zero]; rfl) rfl rfl (by kernel_rfl) (fun y hy => ?_)
 have zy := hy.size
 have rQy := (row_below hy (by omega)).trans rQ5
 unfold pairC at rQy
 obtain ⟨y2, hy2⟩ : ∃ x, y.setRow Q #[.pointer (some ⟨A, 0, none⟩), .pointer (some ⟨B, 0, none⟩), g0, (.slice ga gn gc), s0, s1, t0, t1, .int .i64 ((n + 1 : Nat) : Int), .bool bad] = x := ⟨_, rfl⟩
 have zy2 : y2.heap.size = y.heap.size := by rw [← hy2]; simp
 refine ⟨y2, ?_, ⟨trivial, trivial⟩, fun hS => ?_⟩
 ·
  rw [← hy2]
  go_simp
  try exact ⟨_, _, rfl, rfl⟩
 refine wpAnyR_done (by kernel_rfl) (fun w5 b5 => ?_) _
 have z5 := b5.size
 have hk5 : ∀ k, k < w4.heap.size → k ≠ Q → w5.heap[k]? = w4.heap[k]? := fun k hk hne => by
  rw [b5.block k (by omega), ← hy2, setRow_block_other _ _ _ hne, hy.block k hk]
 have rQ5 : row w5 Q = #[.pointer (some ⟨A, 0, none⟩), .pointer (some ⟨B, 0, none⟩), g0, (.slice ga gn gc), s0, s1, t0, t1, .int .i64 ((n + 1 : Nat) : Int), .bool bad] := by
  rw [row_below b5 (by omega), ← hy2]
  exact row_setRow_same (by rw [rQy]; simp) (by rw [rQy]; simp)
 have hown6 : OwnL w5 base 9 1 (.slice ga gn gc) (l ++ [[.string ⟨o.toArray⟩]]) := hown5.keep fun k hk => by
  obtain ⟨h1, h2, cur, h3⟩ := hown5.blk hk
  refine hk5 k h2 fun e => ?_
  omega
 have B5 : Below B0 w w5 := by
  refine (B2.mono (B' := B0) (by omega)).below hBQ |>.trans ?_
  refine b2.trans ?_
  refine (bu3.mono (by omega)).trans ?_
  refine (hu4.mono (by omega)).trans ?_
  refine (b4.mono (by omega)).trans ?_
  refine (hy.mono (by omega)).trans ?_
  refine Below.trans ?_ (b5.mono (by omega))
  rw [← hy2]
  exact Below.setRow (Below.refl _ _) hBQ _
 have hz5 : w2.heap.size ≤ w5.heap.size := by omega
 have HQ5 := Lib.hid rQ5
 clear hS hX3 hy2 rQy rQ5 rQ4 rQ3 rQ2 rQu rQu2 rQ1 HQ hu1 hu2 zy2
 go_wp2_with fail
 go_ret
 refine ⟨rfl, w2, .slice ga gn gc, hP, fun k hk hne hg => ?_, hz5, HQ5.out, hown6, B5⟩
 rw [hk5 k (by omega) hne, hk4 k (by omega) hg, hu4.block k (by omega), bu3.block k hk]
set_option maxRecDepth 20000 in
set_option maxHeartbeats 2000000 in
theorem come0_one (Q A B B0 : Nat) (g0 g1 s0 s1 t0 t1 : Value) (n : Nat) (bad : Bool) (hn : n < 255) (w : World) (hQ : row w Q = pairC (some ⟨A, 0, none⟩) (some ⟨B, 0, none⟩) g0 g1 s0 s1 t0 t1 n bad)
  (base : Nat) (l : List (List Value)) (hown : OwnL w base 9 1 g0 l) (hbase : base ≤ w.heap.size) (hln : l.length ≤ 100) (hB0 : B0 ≤ base) (hBQ : B0 ≤ Q) (hQb : Q < base) (s o : List UInt8) (P : World → Prop)
  (HT : ∀ w1, row w1 Q = pairC (some ⟨A, 0, none⟩) (some ⟨B, 0, none⟩) g0 g1 s0 s1 t0 t1 (n + 1) bad → BelowBut w.heap.size Q w w1 → Calls Tryz.prog 21 #[.pointer (some ⟨A, 0, none⟩), .string ⟨s.toArray⟩, .agg (u8s (secL (n + 1))).toArray] w1 fun e w2 =>
   (∃ q, e = .returned (.tuple #[.string ⟨#[]⟩, .slice (some ⟨q, 0, none⟩) 1 1, .int .i64 0]) ∧ row w2 q = #[.string ⟨o.toArray⟩]) ∧ (∀ k, k < w1.heap.size → k = Q ∨ g0.ownBlock = some k → w2.heap[k]? = w1.heap[k]?) ∧ Below B0 w1 w2 ∧ P w2) :
  Calls Tryz.prog 44 #[.pointer (some ⟨Q, 0, none⟩), .int .i64 0, .string ⟨s.toArray⟩] w fun e w' => e = .returned (.int .i64 0) ∧ ∃ w2 g', P w2 ∧ (∀ k, k < w2.heap.size → k ≠ Q → g0.ownBlock ≠ some k → w'.heap[k]? = w2.heap[k]?) ∧ w2.heap.size ≤ w'.heap.size ∧
   row w' Q = pairC (some ⟨A, 0, none⟩) (some ⟨B, 0, none⟩) g' g1 s0 s1 t0 t1 (n + 1) bad ∧ OwnL w' base 9 1 g' (l ++ [[.string ⟨o.toArray⟩]]) ∧ Below B0 w w' := by
 have zQ : Q < w.heap.size := lt_of_row (i := 0) (by rw [hQ]; simp [pairC])
 have c0 : w.cell? ⟨Q, 0, none⟩ = some (.pointer (some ⟨A, 0, none⟩)) := by rw [cell_of_row' (by rw [hQ]; simp [pairC]), hQ]; rfl
 have c2 : w.cell? ⟨Q, 2, none⟩ = some g0 := by rw [cell_of_row' (by rw [hQ]; simp [pairC]), hQ]; rfl
 have HQ := Lib.hid hQ
 have HW := Lib.hid hown
 have HT2 := Lib.hid HT
 have hgQ : g0.ownBlock ≠ some Q := fun e => by have := (hown.blk e).1; omega
 clear hQ hown HT
 go_enter Tryz.func44, Tryz.ntmps44
 go_wp2_with fail
 have hG : GrowP fun W => (W.cell? ⟨Q, 0, none⟩ = some (.pointer (some ⟨A, 0, none⟩)) ∧ Q < W.heap.size) ∧ (W.cell? ⟨Q, 2, none⟩ = some g0 ∧ Q < W.heap.size) := GrowP.and (grow_cell _ _ _) (grow_cell _ _ _)
 refine wp_region_beginX [] (fun W => (W.cell? ⟨Q, 0, none⟩ = some (.pointer (some ⟨A, 0, none⟩)) ∧ Q < W.heap.size) ∧ (W.cell? ⟨Q, 2, none⟩ = some g0 ∧ Q < W.heap.size)) hG rfl trivial ⟨⟨c0, zQ⟩, c2, zQ⟩ (fun hS => ?_)
 refine sp 0 hG hS ?_
 refine sp 1 hG hS ?_
 refine sp 2 hG hS ?_
 refine sp 3 hG hS ?_
 refine sp 4 hG hS ?_
 refine sp 5 hG hS ?_
 refine sp 6 hG hS ?_
 refine sp 7 hG hS ?_
 refine wpAnyR_opX 8 (by kernel_rfl) (fun u1 hu1 => ?_)
 replace hu1 : Below w.heap.size w u1 := below_step (Below.drew (Below.refl _ _)) hu1
 have zu1 := hu1.size
 have rQu := (row_below hu1 zQ).trans HQ.out
 refine wpOp_step rfl (fun K hK => ?_)
 clear hS
 go_simp
 refine (draw_any Q _ _ g0 g1 s0 s1 t0 t1 n bad hn u1 rQu).mono ?_
 rintro e w1 ⟨rfl, rQ1, b1⟩
 have z1 := b1.size
 have c0w1 : w1.cell? ⟨Q, 0, none⟩ = some (.pointer (some ⟨A, 0, none⟩)) := by rw [cell_of_row' (by rw [rQ1]; simp [pairC]), rQ1]; rfl
 have c2w1 : w1.cell? ⟨Q, 2, none⟩ = some g0 := by rw [cell_of_row' (by rw [rQ1]; simp [pairC]), rQ1]; rfl
 have hS : XS [] (fun W => (W.cell? ⟨Q, 0, none⟩ = some (.pointer (some ⟨A, 0, none⟩)) ∧ Q < W.heap.size) ∧ (W.cell? ⟨Q, 2, none⟩ = some g0 ∧ Q < W.heap.size)) w1 := ⟨trivial, ⟨c0w1, by omega⟩, c2w1, by omega⟩
 refine hK _ _ ⟨hS, ?_⟩
 clear hK K
 (try simp only [Act.put, List.setIfInBounds_toArray, List.set_cons_zero, List.set_cons_succ])
 refine wpAnyR_opX 9 (by kernel_rfl) (fun u2 hu2 => ?_)
 have zu2 := hu2.size
 have rQu2 := (row_below hu2 (by omega)).trans rQ1
 have B2 : BelowBut w.heap.size Q w u2 := (BelowBut.of hu1).trans ((b1.mono (by omega)).trans ((BelowBut.of hu2).mono (by omega)))
 refine wpOp_step rfl (fun K hK => ?_)
 clear hS
 go_simp
 refine (HT2.out u2 rQu2 B2).mono ?_
 rintro e w2 ⟨⟨q, rfl, rq⟩, hk2, b2, hP⟩
 have z2 := b2.size
 have rQ2 := (row_of_block (hk2 Q (by omega) (.inl rfl))).trans rQu2
 have c0w2 : w2.cell? ⟨Q, 0, none⟩ = some (.pointer (some ⟨A, 0, none⟩)) := by rw [cell_of_row' (by rw [rQ2]; simp [pairC]), rQ2]; rfl
 have c2w2 : w2.cell? ⟨Q, 2, none⟩ = some g0 := by rw [cell_of_row' (by rw [rQ2]; simp [pairC]), rQ2]; rfl
 have hS : XS [] (fun W => (W.cell? ⟨Q, 0, none⟩ = some (.pointer (some ⟨A, 0, none⟩)) ∧ Q < W.heap.size) ∧ (W.cell? ⟨Q, 2, none⟩ = some g0 ∧ Q < W.heap.size)) w2 := ⟨trivial, ⟨c0w2, by omega⟩, c2w2, by omega⟩
 refine hK _ _ ⟨hS, ?_⟩
 clear hK K
 (try simp only [Act.put, List.setIfInBounds_toArray, List.set_cons_zero, List.set_cons_succ])
 refine sp 10 hG hS ?_
 refine sp 11 hG hS ?_
 refine sp 12 hG hS ?_
 refine sp 13 hG hS ?_
 refine sp 14 hG hS ?_
 refine sp 15 hG hS ?_
 refine sp 16 hG hS ?_
 refine wpAnyR_done (by kernel_rfl) (fun u3 bu3 => ?_) _
 have zu3 := bu3.size
 have hown3 : OwnL u3 base 9 1 g0 l := HW.out.keep fun k hk => by
  have h3 := (HW.out.blk hk).2.1
  rw [bu3.block k (by omega), hk2 k (by omega) (.inr hk), B2.block k h3 (fun e => hgQ (e ▸ hk))]
 have rq3 := (row_below bu3 (lt_of_row (i := 0) (by rw [rq]; simp))).trans rq
 have rQ3 := (row_below bu3 (by omega)).trans rQ2
 have c0u3 : u3.cell? ⟨Q, 0, none⟩ = some (.pointer (some ⟨A, 0, none⟩)) := by rw [cell_of_row' (by rw [rQ3]; simp [pairC]), rQ3]; rfl
 have c2u3 : u3.cell? ⟨Q, 2, none⟩ = some g0 := by rw [cell_of_row' (by rw [rQ3]; simp [pairC]), rQ3]; rfl
 have hX3 : XS [] (fun W => (W.cell? ⟨Q, 0, none⟩ = some (.pointer (some ⟨A, 0, none⟩)) ∧ Q < W.heap.size) ∧ (W.cell? ⟨Q, 2, none⟩ = some g0 ∧ Q < W.heap.size)) u3 := ⟨trivial, ⟨c0u3, by omega⟩, c2u3, by omega⟩
 clear hS
 go_wp2_with fail
 refine wp_region_beginKG 13 _ hG rfl ⟨⟨c0u3, by omega⟩, c2u3, by omega⟩ (fun hS => ?_)
 refine kg 0 hG hS ?_
 refine kg 1 hG hS ?_
 refine kg 2 hG hS ?_
 refine kg 3 hG hS ?_
 refine kg 4 hG hS ?_
 refine kg 5 hG hS ?_
 refine kg 6 hG hS ?_
 refine kg 7 hG hS ?_
 refine kg 8 hG hS ?_
 refine kf 10 hG hS ?_
 refine kf 11 hG hS ?_
 refine wpAnyK_op1 9 (by kernel_rfl) (by decide) (fun u4 hu4 => ?_)
 replace hu4 : Below u3.heap.size u3 u4 := below_step (Below.drew (Below.refl _ _)) hu4
 have zu4 := hu4.size
 have hown4 := hown3.below hu4
 have rq4 := (row_below hu4 (lt_of_row (i := 0) (by rw [rq3]; simp))).trans rq3
 have rQ4 := (row_below hu4 (by omega)).trans rQ3
 refine wpOp_wp (by simp only [List.getElem?_toArray, List.getElem?_cons_succ, List.getElem?_cons_zero]; rfl) rfl ?_
 refine wp_appendL (t := 50) rfl Tryz.underlying50 strInfo15 (by decide) (by decide) base _ l rfl hown4 q 1 [.string ⟨o.toArray⟩] rfl rq4 rfl rfl (by omega) (by omega) ?_
 intro g' w4 hown5 b4 hk4
 obtain ⟨ga, gc, hge, _⟩ := hown5.elems
 obtain ⟨gn, hgn⟩ : ∃ x, (l ++ [[Value.string ⟨o.toArray⟩]]).length = x := ⟨_, rfl⟩
 rw [hgn] at hge
 subst hge
 have z4 := b4.size
 have rQ5 := (row_of_block (hk4 Q (by omega) hgQ)).trans rQ4
 have c0w4 : w4.cell? ⟨Q, 0, none⟩ = some (.pointer (some ⟨A, 0, none⟩)) := by rw [cell_of_row' (by rw [rQ5]; simp [pairC]), rQ5]; rfl
 have c2w4 : w4.cell? ⟨Q, 2, none⟩ = some g0 := by rw [cell_of_row' (by rw [rQ5]; simp [pairC]), rQ5]; rfl
 replace hS : XS [] (fun W => (W.cell? ⟨Q, 0, none⟩ = some (.pointer (some ⟨A, 0, none⟩)) ∧ Q < W.heap.size) ∧ (W.cell? ⟨Q, 2, none⟩ = some g0 ∧ Q < W.heap.size)) w4 := ⟨trivial, ⟨c0w4, by omega⟩, c2w4, by omega⟩
 refine ⟨hS, ?_⟩
 (try simp only [Act.put, List.setIfInBounds_toArray, List.set_cons_zero, List.set_cons_succ])
 refine kg 12 hG hS ?_
 refine wpAnyK_store (k := 13) (by simp only [List.getElem?_toArray, List.getElem?_cons_succ, List.getElem?_cons_zero]; rfl) rfl rfl (by kernel_rfl) (fun y hy => ?_)
 have zy := hy.size
 have rQy := (row_below hy (by omega)).trans rQ5
 unfold pairC at rQy
 obtain ⟨y2, hy2⟩ : ∃ x, y.setRow Q #[.pointer (some ⟨A, 0, none⟩), .pointer (some ⟨B, 0, none⟩), (.slice ga gn gc), g1, s0, s1, t0, t1, .int .i64 ((n + 1 : Nat) : Int), .bool bad] = x := ⟨_, rfl⟩
 have zy2 : y2.heap.size = y.heap.size := by rw [← hy2]; simp
 refine ⟨y2, ?_, ⟨trivial, trivial⟩, fun hS => ?_⟩
 ·
  rw [← hy2]
  go_simp
  try exact ⟨_, _, rfl, rfl⟩
 refine wpAnyR_done (by kernel_rfl) (fun w5 b5 => ?_) _
 have z5 := b5.size
 have hk5 : ∀ k, k < w4.heap.size → k ≠ Q → w5.heap[k]? = w4.heap[k]? := fun k hk hne => by
  rw [b5.block k (by omega), ← hy2, setRow_block_other _ _ _ hne, hy.block k hk]
 have rQ5 : row w5 Q = #[.pointer (some ⟨A, 0, none⟩), .pointer (some ⟨B, 0, none⟩), (.slice ga gn gc), g1, s0, s1, t0, t1, .int .i64 ((n + 1 : Nat) : Int), .bool bad] := by
  rw [row_below b5 (by omega), ← hy2]
  exact row_setRow_same (by rw [rQy]; simp) (by rw [rQy]; simp)
 have hown6 : OwnL w5 base 9 1 (.slice ga gn gc) (l ++ [[.string ⟨o.toArray⟩]]) := hown5.keep fun k hk => by
  obtain ⟨h1, h2, cur, h3⟩ := hown5.blk hk
  refine hk5 k h2 fun e => ?_
  omega
 have B5 : Below B0 w w5 := by
  refine (B2.mono (B' := B0) (by omega)).below hBQ |>.trans ?_
  refine b2.trans ?_
  refine (bu3.mono (by omega)).trans ?_
  refine (hu4.mono (by omega)).trans ?_
  refine (b4.mono (by omega)).trans ?_
  refine (hy.mono (by omega)).trans ?_
  refine Below.trans ?_ (b5.mono (by omega))
  rw [← hy2]
  exact Below.setRow (Below.refl _ _) hBQ _
 have hz5 : w2.heap.size ≤ w5.heap.size := by omega
 have HQ5 := Lib.hid rQ5
 clear hS hX3 hy2 rQy rQ5 rQ4 rQ3 rQ2 rQu rQu2 rQ1 HQ hu1 hu2 zy2
 go_wp2_with fail
 go_ret
 refine ⟨rfl, w2, .slice ga gn gc, hP, fun k hk hne hg => ?_, hz5, HQ5.out, hown6, B5⟩
 rw [hk5 k (by omega) hne, hk4 k (by omega) hg, hu4.block k (by omega), bu3.block k hk]
set_option maxRecDepth 20000 in
set_option maxHeartbeats 2000000 in
theorem come1_none (Q A B B0 : Nat) (g0 g1 s0 s1 t0 t1 : Value) (n : Nat) (bad : Bool) (hn : n < 255) (w : World) (hQ : row w Q = pairC (some ⟨A, 0, none⟩) (some ⟨B, 0, none⟩) g0 g1 s0 s1 t0 t1 n bad)
  (base : Nat) (l : List (List Value)) (hown : OwnL w base 9 1 g1 l) (hbase : base ≤ w.heap.size) (hln : l.length ≤ 100) (hB0 : B0 ≤ w.heap.size) (hBQ : B0 ≤ Q) (hQb : Q < base) (s : List UInt8) (P : World → Prop)
  (HT : ∀ w1, row w1 Q = pairC (some ⟨A, 0, none⟩) (some ⟨B, 0, none⟩) g0 g1 s0 s1 t0 t1 (n + 1) bad → BelowBut w.heap.size Q w w1 → Calls Tryz.prog 21 #[.pointer (some ⟨B, 0, none⟩), .string ⟨s.toArray⟩, .agg (u8s (secL (n + 1))).toArray] w1 fun e w2 =>
   e = .returned (.tuple #[.string ⟨#[0]⟩, .slice none 0 0, .int .i64 0]) ∧ (∀ k, k < w1.heap.size → k = Q ∨ g1.ownBlock = some k → w2.heap[k]? = w1.heap[k]?) ∧ Below B0 w1 w2 ∧ P w2) :
  Calls Tryz.prog 44 #[.pointer (some ⟨Q, 0, none⟩), .int .i64 1, .string ⟨s.toArray⟩] w fun e w' => e = .returned (.int .i64 0) ∧ ∃ w2, P w2 ∧ (∀ k, k < w2.heap.size → k ≠ Q → w'.heap[k]? = w2.heap[k]?) ∧ w2.heap.size ≤ w'.heap.size ∧
   row w' Q = pairC (some ⟨A, 0, none⟩) (some ⟨B, 0, none⟩) g0 g1 s0 s1 t0 t1 (n + 1) bad ∧ Below B0 w w' := by
 have zQ : Q < w.heap.size := lt_of_row (i := 0) (by rw [hQ]; simp [pairC])
 have c0 : w.cell? ⟨Q, 1, none⟩ = some (.pointer (some ⟨B, 0, none⟩)) := by rw [cell_of_row' (by rw [hQ]; simp [pairC]), hQ]; rfl
 have c2 : w.cell? ⟨Q, 3, none⟩ = some g1 := by rw [cell_of_row' (by rw [hQ]; simp [pairC]), hQ]; rfl
 have HQ := Lib.hid hQ
 have HW := Lib.hid hown
 have HT2 := Lib.hid HT
 have hgQ : g1.ownBlock ≠ some Q := fun e => by have := (hown.blk e).1; omega
 clear hQ hown HT
 go_enter Tryz.func44, Tryz.ntmps44
 go_wp2_with fail
 have hG : GrowP fun W => (W.cell? ⟨Q, 1, none⟩ = some (.pointer (some ⟨B, 0, none⟩)) ∧ Q < W.heap.size) ∧ (W.cell? ⟨Q, 3, none⟩ = some g1 ∧ Q < W.heap.size) := GrowP.and (grow_cell _ _ _) (grow_cell _ _ _)
 refine wp_region_beginX [] (fun W => (W.cell? ⟨Q, 1, none⟩ = some (.pointer (some ⟨B, 0, none⟩)) ∧ Q < W.heap.size) ∧ (W.cell? ⟨Q, 3, none⟩ = some g1 ∧ Q < W.heap.size)) hG rfl trivial ⟨⟨c0, zQ⟩, c2, zQ⟩ (fun hS => ?_)
 refine sp 0 hG hS ?_
 refine sp 1 hG hS ?_
 refine sp 2 hG hS ?_
 refine sp 3 hG hS ?_
 refine sp 4 hG hS ?_
 refine sp 5 hG hS ?_
 refine sp 6 hG hS ?_
 refine sp 7 hG hS ?_
 refine wpAnyR_opX 8 (by kernel_rfl) (fun u1 hu1 => ?_)
 replace hu1 : Below w.heap.size w u1 := below_step (Below.drew (Below.refl _ _)) hu1
 have zu1 := hu1.size
 have rQu := (row_below hu1 zQ).trans HQ.out
 refine wpOp_step rfl (fun K hK => ?_)
 clear hS
 go_simp
 refine (draw_any Q _ _ g0 g1 s0 s1 t0 t1 n bad hn u1 rQu).mono ?_
 rintro e w1 ⟨rfl, rQ1, b1⟩
 have z1 := b1.size
 have c0w1 : w1.cell? ⟨Q, 1, none⟩ = some (.pointer (some ⟨B, 0, none⟩)) := by rw [cell_of_row' (by rw [rQ1]; simp [pairC]), rQ1]; rfl
 have c2w1 : w1.cell? ⟨Q, 3, none⟩ = some g1 := by rw [cell_of_row' (by rw [rQ1]; simp [pairC]), rQ1]; rfl
 have hS : XS [] (fun W => (W.cell? ⟨Q, 1, none⟩ = some (.pointer (some ⟨B, 0, none⟩)) ∧ Q < W.heap.size) ∧ (W.cell? ⟨Q, 3, none⟩ = some g1 ∧ Q < W.heap.size)) w1 := ⟨trivial, ⟨c0w1, by omega⟩, c2w1, by omega⟩
 refine hK _ _ ⟨hS, ?_⟩
 clear hK K
 (try simp only [Act.put, List.setIfInBounds_toArray, List.set_cons_zero, List.set_cons_succ])
 refine wpAnyR_opX 9 (by kernel_rfl) (fun u2 hu2 => ?_)
 have zu2 := hu2.size
 have rQu2 := (row_below hu2 (by omega)).trans rQ1
 have B2 : BelowBut w.heap.size Q w u2 := (BelowBut.of hu1).trans ((b1.mono (by omega)).trans ((BelowBut.of hu2).mono (by omega)))
 refine wpOp_step rfl (fun K hK => ?_)
 clear hS
 go_simp
 refine (HT2.out u2 rQu2 B2).mono ?_
 rintro e w2 ⟨rfl, hk2, b2, hP⟩
 have z2 := b2.size
 have rQ2 := (row_of_block (hk2 Q (by omega) (.inl rfl))).trans rQu2
 have c0w2 : w2.cell? ⟨Q, 1, none⟩ = some (.pointer (some ⟨B, 0, none⟩)) := by rw [cell_of_row' (by rw [rQ2]; simp [pairC]), rQ2]; rfl
 have c2w2 : w2.cell? ⟨Q, 3, none⟩ = some g1 := by rw [cell_of_row' (by rw [rQ2]; simp [pairC]), rQ2]; rfl
 have hS : XS [] (fun W => (W.cell? ⟨Q, 1, none⟩ = some (.pointer (some ⟨B, 0, none⟩)) ∧ Q < W.heap.size) ∧ (W.cell? ⟨Q, 3, none⟩ = some g1 ∧ Q < W.heap.size)) w2 := ⟨trivial, ⟨c0w2, by omega⟩, c2w2, by omega⟩
 refine hK _ _ ⟨hS, ?_⟩
 clear hK K
 (try simp only [Act.put, List.setIfInBounds_toArray, List.set_cons_zero, List.set_cons_succ])
 refine sp 10 hG hS ?_
 refine sp 11 hG hS ?_
 refine sp 12 hG hS ?_
 refine sp 13 hG hS ?_
 refine sp 14 hG hS ?_
 refine sp 15 hG hS ?_
 refine sp 16 hG hS ?_
 refine wpAnyR_done (by kernel_rfl) (fun u3 bu3 => ?_) _
 have zu3 := bu3.size
 have hown3 : OwnL u3 base 9 1 g1 l := HW.out.keep fun k hk => by
  have h3 := (HW.out.blk hk).2.1
  rw [bu3.block k (by omega), hk2 k (by omega) (.inr hk), B2.block k h3 (fun e => hgQ (e ▸ hk))]
 have rQ3 := (row_below bu3 (by omega)).trans rQ2
 have c0u3 : u3.cell? ⟨Q, 1, none⟩ = some (.pointer (some ⟨B, 0, none⟩)) := by rw [cell_of_row' (by rw [rQ3]; simp [pairC]), rQ3]; rfl
 have c2u3 : u3.cell? ⟨Q, 3, none⟩ = some g1 := by rw [cell_of_row' (by rw [rQ3]; simp [pairC]), rQ3]; rfl
 have hX3 : XS [] (fun W => (W.cell? ⟨Q, 1, none⟩ = some (.pointer (some ⟨B, 0, none⟩)) ∧ Q < W.heap.size) ∧ (W.cell? ⟨Q, 3, none⟩ = some g1 ∧ Q < W.heap.size)) u3 := ⟨trivial, ⟨c0u3, by omega⟩, c2u3, by omega⟩
 clear hS
 go_wp2_with fail
 refine wp_region_beginKG 13 _ hG rfl ⟨⟨c0u3, by omega⟩, c2u3, by omega⟩ (fun hS => ?_)
 refine kg 0 hG hS ?_
 refine kg 1 hG hS ?_
 refine kg 2 hG hS ?_
 refine kg 3 hG hS ?_
 refine kg 4 hG hS ?_
 refine kg 5 hG hS ?_
 refine kg 6 hG hS ?_
 refine kg 7 hG hS ?_
 refine kg 8 hG hS ?_
 refine kf 10 hG hS ?_
 refine kf 11 hG hS ?_
 refine wpAnyK_op1 9 (by kernel_rfl) (by decide) (fun u4 hu4 => ?_)
 replace hu4 : Below u3.heap.size u3 u4 := below_step (Below.drew (Below.refl _ _)) hu4
 have zu4 := hu4.size
 have hown4 := hown3.below hu4
 have rQ4 := (row_below hu4 (by omega)).trans rQ3
 refine wpOp_wp (by simp only [List.getElem?_toArray, List.getElem?_cons_succ, List.getElem?_cons_zero]; rfl) rfl ?_
 refine wp_appendN (t := 50) rfl Tryz.underlying50 strInfo15 base _ l rfl hown4 rfl ?_
 obtain ⟨ga, gc, hge, _⟩ := hown4.elems
 obtain ⟨gn, hgn⟩ : ∃ x, l.length = x := ⟨_, rfl⟩
 rw [hgn] at hge
 subst hge
 obtain ⟨w4, hw4⟩ : ∃ x, u4 = x := ⟨_, rfl⟩
 have z4 : u4.heap.size = w4.heap.size := by rw [hw4]
 have rQ5 : row w4 Q = _ := hw4 ▸ rQ4
 have hk4 : ∀ X, X < u4.heap.size → w4.heap[X]? = u4.heap[X]? := fun X _ => by rw [hw4]
 have c0w4 : w4.cell? ⟨Q, 1, none⟩ = some (.pointer (some ⟨B, 0, none⟩)) := by rw [cell_of_row' (by rw [rQ5]; simp [pairC]), rQ5]; rfl
 have c2w4 : w4.cell? ⟨Q, 3, none⟩ = some (.slice ga gn gc) := by rw [cell_of_row' (by rw [rQ5]; simp [pairC]), rQ5]; rfl
 replace hS : XS [] (fun W => (W.cell? ⟨Q, 1, none⟩ = some (.pointer (some ⟨B, 0, none⟩)) ∧ Q < W.heap.size) ∧ (W.cell? ⟨Q, 3, none⟩ = some (.slice ga gn gc) ∧ Q < W.heap.size)) w4 := ⟨trivial, ⟨c0w4, by omega⟩, c2w4, by omega⟩
 rw [hw4]
 refine ⟨hS, ?_⟩
 (try simp only [Act.put, List.setIfInBounds_toArray, List.set_cons_zero, List.set_cons_succ])
 refine kg 12 hG hS ?_
 refine wpAnyK_store (k := 13) (by simp only [List.getElem?_toArray, List.getElem?_cons_succ, List.getElem?_cons_zero]; rfl) rfl rfl (by kernel_rfl) (fun y hy => ?_)
 have zy := hy.size
 have rQy := (row_below hy (by omega)).trans rQ5
 unfold pairC at rQy
 obtain ⟨y2, hy2⟩ : ∃ x, y.setRow Q #[.pointer (some ⟨A, 0, none⟩), .pointer (some ⟨B, 0, none⟩), g0, (.slice ga gn gc), s0, s1, t0, t1, .int .i64 ((n + 1 : Nat) : Int), .bool bad] = x := ⟨_, rfl⟩
 have zy2 : y2.heap.size = y.heap.size := by rw [← hy2]; simp
 refine ⟨y2, ?_, ⟨trivial, trivial⟩, fun hS => ?_⟩
 ·
  rw [← hy2]
  go_simp
  try exact ⟨_, _, rfl, rfl⟩
 refine wpAnyR_done (by kernel_rfl) (fun w5 b5 => ?_) _
 have z5 := b5.size
 have hk5 : ∀ k, k < w4.heap.size → k ≠ Q → w5.heap[k]? = w4.heap[k]? := fun k hk hne => by
  rw [b5.block k (by omega), ← hy2, setRow_block_other _ _ _ hne, hy.block k hk]
 have rQ5 : row w5 Q = #[.pointer (some ⟨A, 0, none⟩), .pointer (some ⟨B, 0, none⟩), g0, (.slice ga gn gc), s0, s1, t0, t1, .int .i64 ((n + 1 : Nat) : Int), .bool bad] := by
  rw [row_below b5 (by omega), ← hy2]
  exact row_setRow_same (by rw [rQy]; simp) (by rw [rQy])
 have B5 : Below B0 w w5 := by
  refine (B2.mono (B' := B0) (by omega)).below hBQ |>.trans ?_
  refine b2.trans ?_
  refine (bu3.mono (by omega)).trans ?_
  refine (hu4.mono (by omega)).trans ?_
  rw [hw4]
  refine (hy.mono (by omega)).trans ?_
  refine Below.trans ?_ (b5.mono (by omega))
  rw [← hy2]
  exact Below.setRow (Below.refl _ _) hBQ _
 have hz5 : w2.heap.size ≤ w5.heap.size := by omega
 have HQ5 := Lib.hid rQ5
 clear hS hX3 hy2 rQy rQ5 rQ4 rQ3 rQ2 rQu rQu2 rQ1 HQ hu1 hu2 zy2
 go_wp2_with fail
 refine (tidle_any _).mono ?_
 rintro e w6 ⟨rfl, rfl⟩
 go_wp2_with fail
 go_ret
 refine ⟨rfl, w2, hP, fun k hk hne => ?_, hz5, HQ5.out, B5⟩
 rw [hk5 k (by omega) hne, hk4 k (by omega), hu4.block k (by omega), bu3.block k hk]
end
section
open Go.RowKit
def pairN (A B : Nat) (g0 g1 : Value) (n : Nat) : Array Value := pairC (some ⟨A, 0, none⟩) (some ⟨B, 0, none⟩) g0 g1 (.slice none 0 0) (.slice none 0 0) (.slice none 0 0) (.slice none 0 0) n false
theorem own_first {w : World} {B : Nat} {e : TypeId} {v x : Value} {l : List (List Value)} (h : OwnL w B e 1 v ([x] :: l)) {k : Nat} (hk : v.ownBlock = some k) : (row w k)[0]? = some x := by
 obtain ⟨_, hlen, ⟨rfl, h0⟩ | ⟨g, cap, cur, rfl, hg0, hg, _, _, _, ht⟩⟩ := h
 ·
  cases hk
 ·
  simp only [Value.ownBlock, Option.some.injEq] at hk
  subst hk
  unfold row
  rw [hg]
  have := congrArg (fun q : List Value => q[0]?) ht
  simp only [List.flatten_cons, List.cons_append, List.nil_append, List.getElem?_cons_zero, List.length_cons, Nat.mul_one] at this
  rw [List.getElem?_take_of_lt (by omega)] at this
  simpa using this
section
attribute [local irreducible] sealL nonceL tagL maskL greetL hailT replyL oneK twoK secL gramL
theorem talk_first {t : TalkT} (hl : t.h.length = 32) : ∃ z l', t.cells = Value.int .u8 z :: l' := by
 obtain ⟨h, c, k, n, s⟩ := t
 cases h with
 | nil => exact absurd hl (by simp)
 | cons b l => exact ⟨_, _, rfl⟩
theorem hail_first (psk a : List UInt8) (ha : a.length = 32) : ∃ z l', (hailT psk a).cells = Value.int .u8 z :: l' := talk_first (hailT_ok psk a ha).h
theorem secL_length (n : Nat) : (secL n).length = 32 := by unfold secL; rfl
theorem gram_parse (key : List UInt8) (n : Nat) (text : List UInt8) (w : World) (hn : n < 18446744073709551616) (ht : text.length ≤ 1000) :
  Calls Tryz.prog 24 #[.string ⟨(gramL key n text).toArray⟩] w fun e w' => e = .returned (.tuple #[.agg (gramV 3 n (sealL key (nonceL n) [] text)).toArray, .int .i64 0]) ∧ Below w.heap.size w w' := by
 have hl := sealL_len key (nonceL n) [] text
 have he := eightL_length n
 have h := tunParse_ok3 w 3 (eightL n ++ sealL key (nonceL n) [] text) rfl (by rw [List.length_append]; omega) (by rw [List.length_append]; omega)
 rw [List.take_left' he, List.drop_left' he, tofN_eightL n hn] at h
 unfold gramL
 exact h
variable (Q A B B0 : Nat) (psk : List UInt8) (hp : psk.length = 32) (r k p d : Int)
include hp
set_option maxRecDepth 20000 in
set_option maxHeartbeats 4000000 in
theorem calm_1 (w : World) (hA : A < B) (hB : B < Q) (hB0 : B0 ≤ A) (rA : row w A = (newT psk true r k p d).cells.toArray) (rB : row w B = (newT psk false r k p d).cells.toArray) (rQ : row w Q = pairN A B (.slice none 0 0) (.slice none 0 0) 0) :
  Calls Tryz.prog 43 #[.pointer (some ⟨Q, 0, none⟩), .int .i64 0] w fun e w' => e = .returned (.tuple #[]) ∧ ∃ T g0, row w' Q = pairN A B g0 (.slice none 0 0) 1 ∧ row w' A = (⟨psk, true, r, k, p, d, 1, none, none, none, some ⟨T, 0, none⟩, 1, 0, 0⟩ : LinkT).cells.toArray ∧ row w' B = (newT psk false r k p d).cells.toArray ∧
   row w' T = (hailT psk (secL 1)).cells.toArray ∧ w.heap.size ≤ T ∧ OwnL w' w.heap.size 9 1 g0 [[.string ⟨(1 :: greetL psk (secL 1)).toArray⟩]] ∧ g0.ownBlock ≠ some T ∧ (∀ j, j < w.heap.size → j ≠ Q → j ≠ A → w'.heap[j]? = w.heap[j]?) ∧ Below B0 w w' := by
 have zA : A < w.heap.size := lt_of_row (i := 0) (by rw [rA]; simp [newT, LinkT.cells, hp])
 have zB : B < w.heap.size := lt_of_row (i := 0) (by rw [rB]; simp [newT, LinkT.cells, hp])
 have zQ : Q < w.heap.size := lt_of_row (i := 0) (by rw [rQ]; simp [pairN, pairC])
 refine (tick0_one Q A B B0 _ _ _ _ _ _ 0 false (by omega) w rQ w.heap.size [] (OwnL.nil _ _ _ _) (Nat.le_refl _) (by simp) (by omega) (by omega) zQ (1 :: greetL psk (secL 1)) (fun w2 => w.heap.size ≤ w2.heap.size ∧ ∃ T, row w2 T = (hailT psk (secL 1)).cells.toArray ∧ w.heap.size ≤ T ∧ T < w2.heap.size ∧ row w2 A = (⟨psk, true, r, k, p, d, 1, none, none, none, some ⟨T, 0, none⟩, 1, 0, 0⟩ : LinkT).cells.toArray ∧ row w2 B = (newT psk false r k p d).cells.toArray ∧ BelowS w.heap.size [Q, A] w w2) ?_).mono ?_
 ·
  intro w1 rQ1 b1
  have rA1 := (b1.row zA (by omega)).trans rA
  have rB1 := (b1.row zB (by omega)).trans rB
  have z1 := b1.size
  unfold newT at rA1
  refine (ltick_go psk (secL 1) r k p d 0 0 0 0 none none A w1 hp (secL_length _) (by omega) rA1).mono ?_
  rintro e w2 ⟨T, q, rfl, rq, gq, zq, rT, gT, zT, nT, r2, b2⟩
  have z2 := b2.size
  refine ⟨⟨q, rfl, rq⟩, ?_, ?_, ?_⟩
  ·
   rintro j hj (rfl | h)
   ·
    exact b2.block _ hj (by omega)
   ·
    cases h
  ·
   exact (b2.mono (by omega)).below hB0
  ·
   exact ⟨by omega, T, rT, by omega, zT, r2, (b2.row (by omega) (by omega)).trans rB1, (BelowS.one b1 (by simp)).trans ((BelowS.one b2 (by simp)).mono (by omega))⟩
 ·
  rintro e w' ⟨rfl, w2, g', ⟨zw, T, rT, gT, zT, rA2, rB2, bS⟩, hk, hz, rQ', hown, hb⟩
  refine ⟨rfl, T, g', rQ', ?_, ?_, ?_, gT, hown, ?_, fun j h1 h2 h3 => (hk j (by omega) h2 (by intro h; cases h)).trans (bS.block j h1 (by simp; omega)), hb⟩
  ·
   exact (row_of_block (hk A (by omega) (by omega) (by intro h; cases h))).trans rA2
  ·
   exact (row_of_block (hk B (by omega) (by omega) (by intro h; cases h))).trans rB2
  ·
   exact (row_of_block (hk T (by omega) (by omega) (by intro h; cases h))).trans rT
  ·
   intro h
   have h1 := own_first hown h
   rw [(row_of_block (hk T (by omega) (by omega) (by intro h; cases h))).trans rT] at h1
   obtain ⟨z, l', hc⟩ := hail_first psk (secL 1) (secL_length _)
   rw [hc] at h1
   simp at h1
set_option maxRecDepth 20000 in
set_option maxHeartbeats 4000000 in
theorem calm_2 (w : World) (T : Nat) (g0 : Value) (base : Nat) (L : List (List Value)) (hA : A < B) (hB : B < Q) (hB0 : B0 ≤ A) (hT : Q < T) (rT : row w T = (hailT psk (secL 1)).cells.toArray) (rA : row w A = (⟨psk, true, r, k, p, d, 1, none, none, none, some ⟨T, 0, none⟩, 1, 0, 0⟩ : LinkT).cells.toArray) (rB : row w B = (newT psk false r k p d).cells.toArray) (rQ : row w Q = pairN A B g0 (.slice none 0 0) 1) (hown : OwnL w base 9 1 g0 L) (hbase : Q < base) :
  Calls Tryz.prog 43 #[.pointer (some ⟨Q, 0, none⟩), .int .i64 1] w fun e w' => e = .returned (.tuple #[]) ∧ row w' Q = pairN A B g0 (.slice none 0 0) 2 ∧ row w' A = (⟨psk, true, r, k, p, d, 1, none, none, none, some ⟨T, 0, none⟩, 1, 0, 0⟩ : LinkT).cells.toArray ∧ row w' B = (⟨psk, false, r, k, p, d, 1, none, none, none, none, 0, 0, 0⟩ : LinkT).cells.toArray ∧
   row w' T = (hailT psk (secL 1)).cells.toArray ∧ OwnL w' base 9 1 g0 L ∧ w.heap.size ≤ w'.heap.size ∧ (∀ j, j < w.heap.size → j ≠ Q → j ≠ B → w'.heap[j]? = w.heap[j]?) ∧ Below B0 w w' := by
 have zA : A < w.heap.size := lt_of_row (i := 0) (by rw [rA]; simp [LinkT.cells, hp])
 have zB : B < w.heap.size := lt_of_row (i := 0) (by rw [rB]; simp [newT, LinkT.cells, hp])
 have zQ : Q < w.heap.size := lt_of_row (i := 0) (by rw [rQ]; simp [pairN, pairC])
 have zT : T < w.heap.size := lt_of_row (i := 0) (by rw [rT]; obtain ⟨z, l', hc⟩ := hail_first psk (secL 1) (secL_length _); rw [hc]; simp)
 refine (tick1_none Q A B B0 _ _ _ _ _ _ 1 false (by omega) w rQ w.heap.size [] (OwnL.nil _ _ _ _) (Nat.le_refl _) (by simp) (by omega) (by omega) zQ (fun w2 => w.heap.size ≤ w2.heap.size ∧ row w2 B = (⟨psk, false, r, k, p, d, 1, none, none, none, none, 0, 0, 0⟩ : LinkT).cells.toArray ∧ BelowS w.heap.size [Q, B] w w2) ?_).mono ?_
 ·
  intro w1 rQ1 b1
  have rB1 := (b1.row zB (by omega)).trans rB
  have z1 := b1.size
  unfold newT at rB1
  refine (tick_off psk (secL 2) r k p d 0 0 0 0 none none none B w1 hp (secL_length _) (by omega) rB1).mono ?_
  rintro e w2 ⟨rfl, r2, b2⟩
  have z2 := b2.size
  refine ⟨rfl, ?_, (b2.mono (by omega)).below (by omega), by omega, r2, (BelowS.one b1 (by simp)).trans ((BelowS.one b2 (by simp)).mono (by omega))⟩
  rintro j hj (rfl | h)
  ·
   exact b2.block _ hj (by omega)
  ·
   cases h
 ·
  rintro e w' ⟨rfl, w2, ⟨zw, rB2, bS⟩, hk, hz, rQ', hb⟩
  have kept : ∀ j, j < w.heap.size → j ≠ Q → j ≠ B → w'.heap[j]? = w.heap[j]? := fun j h1 h2 h3 => (hk j (by omega) h2).trans (bS.block j h1 (by simp; omega))
  refine ⟨rfl, rQ', ?_, ?_, ?_, ?_, by omega, kept, hb⟩
  ·
   exact (row_of_block (kept A zA (by omega) (by omega))).trans rA
  ·
   exact (row_of_block (hk B (by omega) (by omega))).trans rB2
  ·
   exact (row_of_block (kept T zT (by omega) (by omega))).trans rT
  ·
   refine hown.keep fun j hj => ?_
   obtain ⟨h1, h2, _⟩ := hown.blk hj
   exact kept j h2 (by omega) (by omega)
set_option maxRecDepth 20000 in
set_option maxHeartbeats 4000000 in
theorem calm_3 (w : World) (T : Nat) (g0 : Value) (base : Nat) (L : List (List Value)) (hA : A < B) (hB : B < Q) (hB0 : B0 ≤ A) (hT : Q < T) (rT : row w T = (hailT psk (secL 1)).cells.toArray) (rA : row w A = (⟨psk, true, r, k, p, d, 1, none, none, none, some ⟨T, 0, none⟩, 1, 0, 0⟩ : LinkT).cells.toArray) (rB : row w B = (⟨psk, false, r, k, p, d, 1, none, none, none, none, 0, 0, 0⟩ : LinkT).cells.toArray) (rQ : row w Q = pairN A B g0 (.slice none 0 0) 2) (hown : OwnL w base 9 1 g0 L) (hbase : Q < base) :
  Calls Tryz.prog 44 #[.pointer (some ⟨Q, 0, none⟩), .int .i64 1, .string ⟨(1 :: greetL psk (secL 1)).toArray⟩] w fun e w' => e = .returned (.int .i64 0) ∧ ∃ N1 g1, row w' Q = pairN A B g0 g1 3 ∧ row w' A = (⟨psk, true, r, k, p, d, 1, none, none, none, some ⟨T, 0, none⟩, 1, 0, 0⟩ : LinkT).cells.toArray ∧ row w' B = (⟨psk, false, r, k, p, d, 1, none, some ⟨N1, 0, none⟩, none, none, 0, 1, 0⟩ : LinkT).cells.toArray ∧
   row w' T = (hailT psk (secL 1)).cells.toArray ∧ row w' N1 = (newS15 (twoK psk (secL 1) (secL 3)) (oneK psk (secL 1) (secL 3)) 1 1).cells.toArray ∧ w.heap.size ≤ N1 ∧ OwnL w' base 9 1 g0 L ∧ OwnL w' w.heap.size 9 1 g1 [[.string ⟨(2 :: replyL psk (secL 1) (secL 3)).toArray⟩]] ∧ w.heap.size ≤ w'.heap.size ∧ (∀ j, g0.ownBlock = some j → j < w.heap.size) ∧ (∀ j, j < w.heap.size → j ≠ Q → j ≠ B → w'.heap[j]? = w.heap[j]?) ∧ Below B0 w w' := by
 have zA : A < w.heap.size := lt_of_row (i := 0) (by rw [rA]; simp [LinkT.cells, hp])
 have zB : B < w.heap.size := lt_of_row (i := 0) (by rw [rB]; simp [LinkT.cells, hp])
 have zQ : Q < w.heap.size := lt_of_row (i := 0) (by rw [rQ]; simp [pairN, pairC])
 have zT : T < w.heap.size := lt_of_row (i := 0) (by rw [rT]; obtain ⟨z, l', hc⟩ := hail_first psk (secL 1) (secL_length _); rw [hc]; simp)
 refine (come1_one Q A B B0 _ _ _ _ _ _ 2 false (by omega) w rQ w.heap.size [] (OwnL.nil _ _ _ _) (Nat.le_refl _) (by simp) (by omega) (by omega) zQ (1 :: greetL psk (secL 1)) (2 :: replyL psk (secL 1) (secL 3)) (fun w2 => w.heap.size ≤ w2.heap.size ∧ ∃ N1, row w2 N1 = (newS15 (twoK psk (secL 1) (secL 3)) (oneK psk (secL 1) (secL 3)) 1 1).cells.toArray ∧ w.heap.size ≤ N1 ∧ N1 < w2.heap.size ∧ row w2 B = (⟨psk, false, r, k, p, d, 1, none, some ⟨N1, 0, none⟩, none, none, 0, 1, 0⟩ : LinkT).cells.toArray ∧ BelowS w.heap.size [Q, B] w w2) ?_).mono ?_
 ·
  intro w1 rQ1 b1
  have rB1 := (b1.row zB (by omega)).trans rB
  have z1 := b1.size
  refine (takeX_1 psk (secL 3) false r k p d 1 0 0 0 none none none none B w1 hp rB1 (secL_length _) (1 :: greetL psk (secL 1)) 0 (greetL psk (secL 1)) (fun q w3 => row w3 q = #[.string ⟨(2 :: replyL psk (secL 1) (secL 3)).toArray⟩] ∧ BelowBut w1.heap.size B w1 w3 ∧ ∃ N1, row w3 N1 = (newS15 (twoK psk (secL 1) (secL 3)) (oneK psk (secL 1) (secL 3)) 1 1).cells.toArray ∧ w.heap.size ≤ N1 ∧ N1 < w3.heap.size ∧ row w3 B = (⟨psk, false, r, k, p, d, 1, none, some ⟨N1, 0, none⟩, none, none, 0, 1, 0⟩ : LinkT).cells.toArray) (fun w => tunParse_ok12 w 1 (greetL psk (secL 1)) (.inl rfl) (greetL_length _ _) (by rw [greetL_length]; omega)) ?_).mono ?_
  ·
   intro w2 b2
   have z2 := b2.size
   refine (greeted_ok psk (secL 3) r k p d 1 0 0 0 none none none B w2 hp (secL 1) (secL_length _) (by omega) ((row_below b2 (by omega)).trans rB1)).mono ?_
   rintro e w3 ⟨N, q, rfl, rq, _, _, rN, gN, zN, _, r3, b3⟩
   exact ⟨q, rfl, rq, (BelowBut.of b2).trans (b3.mono (by omega)), N, rN, by omega, zN, r3⟩
  ·
   rintro e w3 ⟨q, rfl, rq, b3, N1, rN, gN, zN, r3⟩
   refine ⟨⟨q, rfl, rq⟩, ?_, (b3.mono (by omega)).below (by omega), by have := b3.size; omega, N1, rN, gN, zN, r3, (BelowS.one b1 (by simp)).trans ((BelowS.one b3 (by simp)).mono (by omega))⟩
   rintro j hj (rfl | h)
   ·
    exact b3.block _ hj (by omega)
   ·
    cases h
 ·
  rintro e w' ⟨rfl, w2, g1, ⟨zw, N1, rN, gN, zN, rB2, bS⟩, hk, hz, rQ', hown1, hb⟩
  have kept : ∀ j, j < w.heap.size → j ≠ Q → j ≠ B → w'.heap[j]? = w.heap[j]? := fun j h1 h2 h3 => (hk j (by omega) h2 (by intro h; cases h)).trans (bS.block j h1 (by simp; omega))
  refine ⟨rfl, N1, g1, rQ', ?_, ?_, ?_, ?_, gN, ?_, hown1, by omega, fun j hj => (hown.blk hj).2.1, kept, hb⟩
  ·
   exact (row_of_block (kept A zA (by omega) (by omega))).trans rA
  ·
   exact (row_of_block (hk B (by omega) (by omega) (by intro h; cases h))).trans rB2
  ·
   exact (row_of_block (kept T zT (by omega) (by omega))).trans rT
  ·
   exact (row_of_block (hk N1 (by omega) (by omega) (by intro h; cases h))).trans rN
  ·
   refine hown.keep fun j hj => ?_
   obtain ⟨h1, h2, _⟩ := hown.blk hj
   exact kept j h2 (by omega) (by omega)
set_option maxRecDepth 20000 in
set_option maxHeartbeats 4000000 in
theorem calm_4 (w : World) (T N1 : Nat) (g0 g1 : Value) (base base1 : Nat) (L1 : List (List Value)) (hA : A < B) (hB : B < Q) (hB0 : B0 ≤ A) (hT : Q < T) (hTN : T < N1) (rT : row w T = (hailT psk (secL 1)).cells.toArray) (rA : row w A = (⟨psk, true, r, k, p, d, 1, none, none, none, some ⟨T, 0, none⟩, 1, 0, 0⟩ : LinkT).cells.toArray) (rB : row w B = (⟨psk, false, r, k, p, d, 1, none, some ⟨N1, 0, none⟩, none, none, 0, 1, 0⟩ : LinkT).cells.toArray) (rN1 : row w N1 = (newS15 (twoK psk (secL 1) (secL 3)) (oneK psk (secL 1) (secL 3)) 1 1).cells.toArray) (rQ : row w Q = pairN A B g0 g1 3)
  (hown : OwnL w base 9 1 g0 [[.string ⟨(1 :: greetL psk (secL 1)).toArray⟩]]) (hbase : Q < base) (hown1 : OwnL w base1 9 1 g1 L1) (hbase1 : base ≤ base1) (hgN : ∀ j, g0.ownBlock = some j → j < base1 ∧ j < N1) :
  Calls Tryz.prog 44 #[.pointer (some ⟨Q, 0, none⟩), .int .i64 0, .string ⟨(2 :: replyL psk (secL 1) (secL 3)).toArray⟩] w fun e w' => e = .returned (.int .i64 0) ∧ ∃ N0 g0', row w' Q = pairN A B g0' g1 4 ∧ row w' A = (⟨psk, true, r, k, p, d, 1, some ⟨N0, 0, none⟩, none, none, none, 1, 1, 0⟩ : LinkT).cells.toArray ∧ row w' B = (⟨psk, false, r, k, p, d, 1, none, some ⟨N1, 0, none⟩, none, none, 0, 1, 0⟩ : LinkT).cells.toArray ∧ row w' N1 = (newS15 (twoK psk (secL 1) (secL 3)) (oneK psk (secL 1) (secL 3)) 1 1).cells.toArray ∧ row w' N0 = ({ newS15 (oneK psk (secL 1) (secL 3)) (twoK psk (secL 1) (secL 3)) 1 1 with count := 1 } : SessT).cells.toArray ∧ w.heap.size ≤ N0 ∧
   OwnL w' base 9 1 g0' [[.string ⟨(1 :: greetL psk (secL 1)).toArray⟩], [.string ⟨(gramL (oneK psk (secL 1) (secL 3)) 0 [0]).toArray⟩]] ∧ OwnL w' base1 9 1 g1 L1 ∧ w.heap.size ≤ w'.heap.size ∧ (∀ j, j < w.heap.size → j ≠ Q → j ≠ A → g0.ownBlock ≠ some j → w'.heap[j]? = w.heap[j]?) ∧ Below B0 w w' := by
 have zA : A < w.heap.size := lt_of_row (i := 0) (by rw [rA]; simp [LinkT.cells, hp])
 have zB : B < w.heap.size := lt_of_row (i := 0) (by rw [rB]; simp [LinkT.cells, hp])
 have zQ : Q < w.heap.size := lt_of_row (i := 0) (by rw [rQ]; simp [pairN, pairC])
 have zT : T < w.heap.size := lt_of_row (i := 0) (by rw [rT]; obtain ⟨z, l', hc⟩ := hail_first psk (secL 1) (secL_length _); rw [hc]; simp)
 have zN1 : N1 < w.heap.size := lt_of_row (i := 0) (by rw [rN1]; simp [newS15, SessT.cells, oneK_length, twoK_length])
 have hg0 : ∀ j, g0.ownBlock = some j → base ≤ j ∧ j < w.heap.size := fun j hj => ⟨(hown.blk hj).1, (hown.blk hj).2.1⟩
 have hg0w : base ≤ w.heap.size := by
  obtain ⟨_, _, h | ⟨g, _, _, _, h1, h2, _⟩⟩ := hown
  ·
   simp at h
  ·
   have := (Array.getElem?_eq_some_iff.1 h2).1; omega
 refine (come0_one Q A B B0 _ _ _ _ _ _ 3 false (by omega) w rQ base _ hown hg0w (by simp) (by omega) (by omega) hbase (2 :: replyL psk (secL 1) (secL 3)) (gramL (oneK psk (secL 1) (secL 3)) 0 [0]) (fun w2 => w.heap.size ≤ w2.heap.size ∧ ∃ N0, row w2 N0 = ({ newS15 (oneK psk (secL 1) (secL 3)) (twoK psk (secL 1) (secL 3)) 1 1 with count := 1 } : SessT).cells.toArray ∧ w.heap.size ≤ N0 ∧ N0 < w2.heap.size ∧ row w2 A = (⟨psk, true, r, k, p, d, 1, some ⟨N0, 0, none⟩, none, none, none, 1, 1, 0⟩ : LinkT).cells.toArray ∧ BelowS w.heap.size [Q, A] w w2) ?_).mono ?_
 ·
  intro w1 rQ1 b1
  have rA1 := (b1.row zA (by omega)).trans rA
  have rT1 := (b1.row zT (by omega)).trans rT
  have z1 := b1.size
  refine (takeX_2 psk (secL 4) true r k p d 1 1 0 0 none none none _ A w1 hp rA1 (secL_length _) (2 :: replyL psk (secL 1) (secL 3)) 0 (replyL psk (secL 1) (secL 3)) (fun q w3 => row w3 q = #[.string ⟨(gramL (oneK psk (secL 1) (secL 3)) 0 [0]).toArray⟩] ∧ BelowBut w1.heap.size A w1 w3 ∧ ∃ N0, row w3 N0 = ({ newS15 (oneK psk (secL 1) (secL 3)) (twoK psk (secL 1) (secL 3)) 1 1 with count := 1 } : SessT).cells.toArray ∧ w.heap.size ≤ N0 ∧ N0 < w3.heap.size ∧ row w3 A = (⟨psk, true, r, k, p, d, 1, some ⟨N0, 0, none⟩, none, none, none, 1, 1, 0⟩ : LinkT).cells.toArray) (fun w => tunParse_ok12 w 2 (replyL psk (secL 1) (secL 3)) (.inr rfl) (replyL_length _ _ _) (by rw [replyL_length]; omega)) ?_).mono ?_
  ·
   intro w2 b2
   have z2 := b2.size
   refine (answered_ok psk r k p d 1 1 0 0 none none A w2 hp (secL 1) (secL 3) T (secL_length _) (secL_length _) (by omega) (by omega) ((row_below b2 (by omega)).trans rA1) ((row_below b2 (by omega)).trans rT1)).mono ?_
   rintro e w3 ⟨N, q, rfl, rq, _, _, rN, gN, zN, _, r3, b3⟩
   exact ⟨q, rfl, rq, (BelowBut.of b2).trans (b3.mono (by omega)), N, rN, by omega, zN, r3⟩
  ·
   rintro e w3 ⟨q, rfl, rq, b3, N0, rN, gN, zN, r3⟩
   refine ⟨⟨q, rfl, rq⟩, ?_, (b3.mono (by omega)).below (by omega), by have := b3.size; omega, N0, rN, gN, zN, r3, (BelowS.one b1 (by simp)).trans ((BelowS.one b3 (by simp)).mono (by omega))⟩
   rintro j hj (rfl | h)
   ·
    exact b3.block _ hj (by omega)
   ·
    have := hg0 _ h
    exact b3.block _ hj (by omega)
 ·
  rintro e w' ⟨rfl, w2, g0', ⟨zw, N0, rN, gN, zN, rA2, bS⟩, hk, hz, rQ', hown0, hb⟩
  have hne : ∀ j, (j < base ∨ base1 ≤ j ∨ N1 ≤ j) → g0.ownBlock ≠ some j := fun j h e => by
   have h1 := hg0 _ e
   have h2 := hgN _ e
   omega
  have kept : ∀ j, j < w.heap.size → j ≠ Q → j ≠ A → g0.ownBlock ≠ some j → w'.heap[j]? = w.heap[j]? := fun j h1 h2 h3 h4 => (hk j (by omega) h2 h4).trans (bS.block j h1 (by simp; omega))
  refine ⟨rfl, N0, g0', rQ', ?_, ?_, ?_, ?_, gN, hown0, ?_, by omega, kept, hb⟩
  ·
   exact (row_of_block (hk A (by omega) (by omega) (hne A (by omega)))).trans rA2
  ·
   exact (row_of_block (kept B zB (by omega) (by omega) (hne B (by omega)))).trans rB
  ·
   exact (row_of_block (kept N1 zN1 (by omega) (by omega) (hne N1 (by omega)))).trans rN1
  ·
   exact (row_of_block (hk N0 (by omega) (by omega) (hne N0 (by omega)))).trans rN
  ·
   refine hown1.keep fun j hj => ?_
   obtain ⟨h1, h2, _⟩ := hown1.blk hj
   exact kept j h2 (by omega) (by omega) (hne j (by omega))
set_option maxRecDepth 20000 in
set_option maxHeartbeats 4000000 in
theorem calm_5 (w : World) (N0 N1 : Nat) (g0 g1 : Value) (base1 : Nat) (L1 : List (List Value)) (hA : A < B) (hB : B < Q) (hB0 : B0 ≤ A) (hN1 : Q < N1) (hN : N1 < N0) (rA : row w A = (⟨psk, true, r, k, p, d, 1, some ⟨N0, 0, none⟩, none, none, none, 1, 1, 0⟩ : LinkT).cells.toArray) (rB : row w B = (⟨psk, false, r, k, p, d, 1, none, some ⟨N1, 0, none⟩, none, none, 0, 1, 0⟩ : LinkT).cells.toArray) (rN0 : row w N0 = ({ newS15 (oneK psk (secL 1) (secL 3)) (twoK psk (secL 1) (secL 3)) 1 1 with count := 1 } : SessT).cells.toArray) (rN1 : row w N1 = (newS15 (twoK psk (secL 1) (secL 3)) (oneK psk (secL 1) (secL 3)) 1 1).cells.toArray) (rQ : row w Q = pairN A B g0 g1 4)
  (hown1 : OwnL w base1 9 1 g1 L1) (hbase1 : Q < base1) (hl1 : L1.length ≤ 100) (hw1 : base1 ≤ w.heap.size) (hgN : g1.ownBlock ≠ some N1) :
  Calls Tryz.prog 44 #[.pointer (some ⟨Q, 0, none⟩), .int .i64 1, .string ⟨(gramL (oneK psk (secL 1) (secL 3)) 0 [0]).toArray⟩] w fun e w' => e = .returned (.int .i64 0) ∧ row w' Q = pairN A B g0 g1 5 ∧ row w' A = (⟨psk, true, r, k, p, d, 1, some ⟨N0, 0, none⟩, none, none, none, 1, 1, 0⟩ : LinkT).cells.toArray ∧ row w' B = (⟨psk, false, r, k, p, d, 1, some ⟨N1, 0, none⟩, none, none, none, 0, 1, 1⟩ : LinkT).cells.toArray ∧ row w' N1 = ({ newS15 (twoK psk (secL 1) (secL 3)) (oneK psk (secL 1) (secL 3)) 1 1 with top := 0, bits := 1, some := true, taken := 1 } : SessT).cells.toArray ∧ row w' N0 = ({ newS15 (oneK psk (secL 1) (secL 3)) (twoK psk (secL 1) (secL 3)) 1 1 with count := 1 } : SessT).cells.toArray ∧ w.heap.size ≤ w'.heap.size ∧ (∀ j, j < w.heap.size → j ≠ Q → j ≠ B → j ≠ N1 → w'.heap[j]? = w.heap[j]?) ∧ Below B0 w w' := by
 have zA : A < w.heap.size := lt_of_row (i := 0) (by rw [rA]; simp [LinkT.cells, hp])
 have zB : B < w.heap.size := lt_of_row (i := 0) (by rw [rB]; simp [LinkT.cells, hp])
 have zQ : Q < w.heap.size := lt_of_row (i := 0) (by rw [rQ]; simp [pairN, pairC])
 have zN1 : N1 < w.heap.size := lt_of_row (i := 0) (by rw [rN1]; simp [newS15, SessT.cells, oneK_length, twoK_length])
 have zN0 : N0 < w.heap.size := lt_of_row (i := 0) (by rw [rN0]; simp [newS15, SessT.cells, oneK_length, twoK_length])
 refine (come1_none Q A B B0 _ _ _ _ _ _ 4 false (by omega) w rQ base1 _ hown1 hw1 hl1 (by omega) (by omega) hbase1 (gramL (oneK psk (secL 1) (secL 3)) 0 [0]) (fun w2 => w.heap.size ≤ w2.heap.size ∧ row w2 N1 = ({ newS15 (twoK psk (secL 1) (secL 3)) (oneK psk (secL 1) (secL 3)) 1 1 with top := 0, bits := 1, some := true, taken := 1 } : SessT).cells.toArray ∧ row w2 B = (⟨psk, false, r, k, p, d, 1, some ⟨N1, 0, none⟩, none, none, none, 0, 1, 1⟩ : LinkT).cells.toArray ∧ BelowS w.heap.size [Q, B, N1] w w2) ?_).mono ?_
 ·
  intro w1 rQ1 b1
  have rB1 := (b1.row zB (by omega)).trans rB
  have rN1' := (b1.row zN1 (by omega)).trans rN1
  have z1 := b1.size
  refine (takeX_3 psk (secL 5) false r k p d 1 0 1 0 none _ none none B w1 hp rB1 (secL_length _) (gramL (oneK psk (secL 1) (secL 3)) 0 [0]) 0 (sealL (oneK psk (secL 1) (secL 3)) (nonceL 0) [] [0]) [0] (fun w3 => row w3 N1 = ({ newS15 (twoK psk (secL 1) (secL 3)) (oneK psk (secL 1) (secL 3)) 1 1 with top := 0, bits := 1, some := true, taken := 1 } : SessT).cells.toArray ∧ row w3 B = (⟨psk, false, r, k, p, d, 1, some ⟨N1, 0, none⟩, none, none, none, 0, 1, 1⟩ : LinkT).cells.toArray ∧ BelowS w1.heap.size [B, N1] w1 w3) (fun w => gram_parse (oneK psk (secL 1) (secL 3)) 0 [0] w (by omega) (by simp)) ?_).mono ?_
  ·
   intro w2 b2
   have z2 := b2.size
   refine (opened_new psk false r k p d 1 0 1 0 none none B N1 w2 hp (newS15 (twoK psk (secL 1) (secL 3)) (oneK psk (secL 1) (secL 3)) 1 1) ⟨twoK_length _ _ _, oneK_length _ _ _⟩ rfl 0 [0] (by simp) (by omega) ((row_below b2 (by omega)).trans rB1) ((row_below b2 (by omega)).trans rN1')).mono ?_
   rintro e w3 ⟨rfl, r3, r4, b3⟩
   exact ⟨rfl, r3, r4, (BelowS.of b2).trans (b3.mono (by omega))⟩
  ·
   rintro e w3 ⟨rfl, rN, r3, b3⟩
   refine ⟨rfl, ?_, (b3.mono (by omega)).below (Nat.le_refl _) (by simp; omega), by have := b3.size; omega, rN, r3, (BelowS.one b1 (by simp)).trans ⟨b3.os, b3.tape, b3.output, b3.size, fun j h1 h2 => b3.block j (by omega) (by simp at h2 ⊢; omega)⟩⟩
   rintro j hj (rfl | h)
   ·
    exact b3.block _ hj (by simp; omega)
   ·
    have h1 := hown1.blk h
    exact b3.block _ hj (by
     have : j ≠ N1 := fun e => hgN (e ▸ h)
     simp; omega)
 ·
  rintro e w' ⟨rfl, w2, ⟨zw, rN, rB2, bS⟩, hk, hz, rQ', hb⟩
  have kept : ∀ j, j < w.heap.size → j ≠ Q → j ≠ B → j ≠ N1 → w'.heap[j]? = w.heap[j]? := fun j h1 h2 h3 h4 => (hk j (by omega) h2).trans (bS.block j h1 (by simp; omega))
  refine ⟨rfl, rQ', ?_, ?_, ?_, ?_, by omega, kept, hb⟩
  ·
   exact (row_of_block (kept A zA (by omega) (by omega) (by omega))).trans rA
  ·
   exact (row_of_block (hk B (by omega) (by omega))).trans rB2
  ·
   exact (row_of_block (hk N1 (by omega) (by omega))).trans rN
  ·
   exact (row_of_block (kept N0 zN0 (by omega) (by omega) (by omega))).trans rN0
end
end
section
open Go.RowKit
theorem own_row {w : World} {B : Nat} {e : TypeId} {v : Value} {l : List (List Value)} (h : OwnL w B e 1 v l) (hl : l ≠ []) : ∃ g cap rest, v = .slice (some ⟨g, 0, none⟩) l.length cap ∧ row w g = (l.flatten ++ rest).toArray ∧ B ≤ g ∧ g < w.heap.size := by
 obtain ⟨_, hlen, ⟨_, h0⟩ | ⟨g, cap, cur, rfl, hg0, hg, _, _, _, ht⟩⟩ := h
 ·
  exact absurd (List.eq_nil_of_length_eq_zero h0) hl
 ·
  refine ⟨g, cap, cur.toList.drop l.flatten.length, rfl, ?_, hg0, (Array.getElem?_eq_some_iff.1 hg).1⟩
  unfold row
  have hlf : l.flatten.length = l.length * 1 := hlen
  rw [hg, ← ht]
  have : (List.take (l.length * 1) cur.toList).length = l.length * 1 := by rw [ht]; exact hlf
  rw [this, List.take_append_drop]
  simp
theorem sess_first {k1 k2 : List UInt8} {id now : Int} (h : k1.length = 32) : ∃ z l', (newS15 k1 k2 id now).cells = Value.int .u8 z :: l' := by
 cases k1 with
 | nil => exact absurd h (by simp)
 | cons b l => exact ⟨_, _, rfl⟩
theorem calls_at {P : Program} {f : FuncId} {args : Array Value} {w : World} {Q : Ending → World → Prop} (R : World → Prop) (hR : R w) (h : ∀ w4, R w4 → Calls P f args w4 Q) : Calls P f args w Q := h w hR
theorem drewN_set (w : World) (F : Nat) (c : Array Value) (n B0 : Nat) (h0 : 0 < (row w F).size) (hc : c.size = (row w F).size) (hB : B0 ≤ F) (hF : F < w.heap.size) :
  w.heap.size ≤ ((w.setRow F c).drewN n).heap.size ∧ row ((w.setRow F c).drewN n) F = c ∧ (∀ j, j < w.heap.size → j ≠ F → ((w.setRow F c).drewN n).heap[j]? = w.heap[j]?) ∧ Below B0 w ((w.setRow F c).drewN n) := by
 have b := below_drewN (Below.refl (w.setRow F c).heap.size (w.setRow F c)) n
 have hz := b.size
 rw [setRow_size] at hz b
 refine ⟨hz, ?_, fun j hj hn => ?_, ?_⟩
 ·
  rw [row_below b hF]
  exact row_setRow_same h0 hc
 ·
  rw [b.block j hj, setRow_block_other _ _ _ hn]
 ·
  exact (Below.setRow (Below.refl _ _) hB _).trans (b.mono (by omega))
attribute [local irreducible] sealL nonceL tagL maskL greetL hailT replyL oneK twoK secL gramL
set_option maxRecDepth 20000 in
set_option maxHeartbeats 4000000 in
theorem calm_any (Q A B B0 : Nat) (psk : List UInt8) (hp : psk.length = 32) (r k p d : Int) (w : World) (hA : A < B) (hB : B < Q) (hB0 : B0 ≤ A) (rA : row w A = (newT psk true r k p d).cells.toArray) (rB : row w B = (newT psk false r k p d).cells.toArray) (rQ : row w Q = pairN A B (.slice none 0 0) (.slice none 0 0) 0) :
  Calls Tryz.prog 14 #[.pointer (some ⟨Q, 0, none⟩), .int .i64 1] w fun e w' => e = .returned (.tuple #[]) ∧ ∃ N0 N1 g0 g1, row w' Q = pairN A B g0 g1 5 ∧ row w' A = (⟨psk, true, r, k, p, d, 1, some ⟨N0, 0, none⟩, none, none, none, 1, 1, 0⟩ : LinkT).cells.toArray ∧ row w' B = (⟨psk, false, r, k, p, d, 1, some ⟨N1, 0, none⟩, none, none, none, 0, 1, 1⟩ : LinkT).cells.toArray ∧
   row w' N0 = ({ newS15 (oneK psk (secL 1) (secL 3)) (twoK psk (secL 1) (secL 3)) 1 1 with count := 1 } : SessT).cells.toArray ∧ row w' N1 = ({ newS15 (twoK psk (secL 1) (secL 3)) (oneK psk (secL 1) (secL 3)) 1 1 with top := 0, bits := 1, some := true, taken := 1 } : SessT).cells.toArray ∧ Q < N0 ∧ Q < N1 ∧ (∀ j, j < w.heap.size → j ≠ Q → j ≠ A → j ≠ B → w'.heap[j]? = w.heap[j]?) ∧ Below B0 w w' := by
 have zQ : Q < w.heap.size := lt_of_row (i := 0) (by rw [rQ]; simp [pairN, pairC])
 have rA0 := Lib.hid rA
 have rB0 := Lib.hid rB
 have rQ0 := Lib.hid rQ
 clear rA rB
 unfold pairN pairC at rQ
 go_enter Tryz.func14, Tryz.ntmps14
 go_wp2_with fail
 refine wp_loop_rounds 2 ?_
 rw [rounds_succ]
 go_wp2_with fail
 refine wp_region_beginR [(Q, #[.pointer (some ⟨A, 0, none⟩), .pointer (some ⟨B, 0, none⟩), .slice none 0 0, .slice none 0 0, .slice none 0 0, .slice none 0 0, .slice none 0 0, .slice none 0 0, .int .i64 ((0 : Nat) : Int), .bool false])] rfl (by simp only [Rws]; (repeat (first | exact trivial | refine ⟨(by first | assumption | (simp [go_sem, *]; done)), (by first | omega | (simp; done) | (simp; omega)), ?_⟩))) (fun hS => ?_)
 refine qp 0 hS ?_
 refine qp 1 hS ?_
 refine qp 2 hS ?_
 refine qp 3 hS ?_
 refine qp 4 hS ?_
 refine qp 5 hS ?_
 refine qp 6 hS ?_
 refine qp 7 hS ?_
 refine qp 8 hS ?_
 refine qp 9 hS ?_
 refine qp 10 hS ?_
 refine qp 11 hS ?_
 refine qp 12 hS ?_
 refine wpAnyR_single (i := 13) (k := 14) (zi := (zeros 2 (Value.int .i64 0)).toArray) (cA := ([Value.int .i64 0, .int .i64 0]).toArray) (by simp only [List.getElem?_toArray, List.getElem?_cons_succ, List.getElem?_cons_zero]; rfl) (by simp only [List.getElem?_toArray, List.getElem?_cons_succ, List.getElem?_cons_zero]; rfl) ⟨rfl, rfl, fun a w => by go_simp; (refine ⟨?_, ?_⟩ <;> rfl)⟩ (by kernel_rfl) (by kernel_rfl) (by kernel_rfl) rfl rfl (by simp [*]) (by simp) (by simp; (try omega)) (fun A w1 hr => by
  simp only [Act.put, List.setIfInBounds_toArray, List.set_cons_zero, List.set_cons_succ, ptr]
  go_simp
  try rfl) hS (fun F w1 gF zF b1 rF => ?_)
 (try simp only [Act.put, List.setIfInBounds_toArray, List.set_cons_zero, List.set_cons_succ])
 replace gF : (w).heap.size ≤ F := gF
 replace b1 : Below (w).heap.size w w1 := Below.trans (Below.drew (Below.refl _ _)) b1
 have zw1 := (b1).size
 simp only [ptr]
 clear hS
 have rA1 := (row_below b1 (by omega)).trans rA0.out
 have rB1 := (row_below b1 (by omega)).trans rB0.out
 have rQ1 := (row_below b1 (by omega)).trans rQ0.out
 go_wp2_with fail
 refine (calm_1 Q A B B0 psk hp r k p d w1 hA hB hB0 rA1 rB1 rQ1).mono ?_
 rintro e w2 ⟨rfl, T, g0, rQ2, rA2, rB2, rT2, gT, hown2, hgT, kp2, b2⟩
 have z2 : w1.heap.size ≤ w2.heap.size := b2.size
 have rF2 := (row_of_block (kp2 F (by omega) (by omega) (by omega))).trans rF
 go_wp2_with fail
 refine (calm_2 Q A B B0 psk hp r k p d w2 T g0 w1.heap.size _ hA hB hB0 (by omega) rT2 rA2 rB2 rQ2 hown2 (by omega)).mono ?_
 rintro e w3 ⟨rfl, rQ3, rA3, rB3, rT3, hown3, z3, kp3, b3⟩
 have rF3 := (row_of_block (kp3 F (by omega) (by omega) (by omega))).trans rF2
 have zQ3 : Q < w3.heap.size := by omega
 have zF3 : F < w3.heap.size := by omega
 have HQ3 := Lib.hid rQ3
 have HA3 := Lib.hid rA3
 have HB3 := Lib.hid rB3
 have HT3 := Lib.hid rT3
 have HO3 := Lib.hid hown3
 obtain ⟨G, gc0, rest0, hge, rG3, gG, zG3⟩ := own_row hown3 (by simp)
 simp only [List.length_singleton, List.flatten_cons, List.flatten_nil, List.append_nil, List.cons_append, List.nil_append] at hge rG3
 have K3 : ∀ j, j < w.heap.size → j ≠ Q → j ≠ A → j ≠ B → w3.heap[j]? = w.heap[j]? := fun j h1 h2 h3 h4 => by rw [kp3 j (by omega) h2 h4, kp2 j (by omega) h2 h3, b1.block j h1]
 have B3 := (b1.mono (show B0 ≤ w.heap.size by omega)).trans (b2.trans b3)
 clear rQ1 rA1 rB1 rQ2 rA2 rB2 rT2 rF2 rA3 rB3 rT3 hown2 hown3 kp2 kp3 b1 b2 b3
 unfold pairN pairC at rQ3
 go_wp2_with fail
 refine wp_loop_rounds 3 ?_
 rw [rounds_succ]
 rw [hge] at rQ3
 go_wp2_with fail
 go_quiet (fail)
 go_wp2_with fail
 refine wp_loop_rounds 3 ?_
 rw [rounds_succ]
 go_wp2_with fail
 refine wp_loop_rounds 2 ?_
 rw [rounds_succ]
 go_wp2_with fail
 go_quiet (fail)
 go_wp2_with fail
 go_quiet (fail)
 go_wp2_with fail
 refine calls_at (fun w4 => w3.heap.size ≤ w4.heap.size ∧ row w4 F = #[Value.int .i64 1, .int .i64 0] ∧ (∀ j, j < w3.heap.size → j ≠ F → w4.heap[j]? = w3.heap[j]?) ∧ Below B0 w3 w4) (drewN_set _ _ _ _ _ (by rw [rF3]; simp) (by rw [rF3]; simp) (by omega) (by omega)) (fun w4 ⟨z4, rF4, kp4, b4⟩ => ?_)
 have hgF : ∀ j, g0.ownBlock = some j → j < F ∨ F < j := fun j hj => by
  have h1 := own_first HO3.out hj
  rcases Nat.lt_trichotomy j F with h | h | h
  ·
   exact .inl h
  ·
   subst h
   rw [rF3] at h1
   simp at h1
  ·
   exact .inr h
 have zT3 : T < w3.heap.size := lt_of_row (i := 0) (by rw [HT3.out]; obtain ⟨z, l', hc⟩ := hail_first psk (secL 1) (secL_length _); rw [hc]; simp)
 have hFT : F ≠ T := by omega
 refine (calm_3 Q A B B0 psk hp r k p d w4 T g0 w1.heap.size _ hA hB hB0 (by omega) ((row_of_block (kp4 T zT3 (Ne.symm hFT))).trans HT3.out) ((row_of_block (kp4 A (by omega) (by omega))).trans HA3.out) ((row_of_block (kp4 B (by omega) (by omega))).trans HB3.out) ((row_of_block (kp4 Q (by omega) (by omega))).trans HQ3.out) (HO3.out.keep fun j hj => kp4 j (HO3.out.blk hj).2.1 (by have := hgF j hj; omega)) (by omega)).mono ?_
 rintro e w5 ⟨rfl, N1, g1, rQ5, rA5, rB5, rT5, rN5, gN1, hown5, howg5, z5, hgj5, kp5, b5⟩
 have rF5 := (row_of_block (kp5 F (by omega) (by omega) (by omega))).trans rF4
 have K5 : ∀ j, j < w.heap.size → j ≠ Q → j ≠ A → j ≠ B → w5.heap[j]? = w.heap[j]? := fun j h1 h2 h3 h4 => by rw [kp5 j (by omega) h2 h4, kp4 j (by omega) (by omega), K3 j h1 h2 h3 h4]
 have B5 := B3.trans (b4.trans b5)
 have HQ5 := Lib.hid rQ5
 have HA5 := Lib.hid rA5
 have HB5 := Lib.hid rB5
 have HT5 := Lib.hid rT5
 have HN5 := Lib.hid rN5
 have HO5 := Lib.hid hown5
 have HG5 := Lib.hid howg5
 obtain ⟨G2, gc2, rest1, hge2, rG5, gG2, zG5⟩ := own_row howg5 (by simp)
 obtain ⟨G3, gc3, rest3, hge3, rG6, gG3, zG6⟩ := own_row hown5 (by simp)
 simp only [List.length_singleton, List.flatten_cons, List.flatten_nil, List.append_nil, List.cons_append, List.nil_append] at hge2 rG5 hge3 rG6
 have zQ5 : Q < w5.heap.size := by omega
 have zF5 : F < w5.heap.size := by omega
 clear rA5 rB5 rT5 rN5 hown5 howg5 kp4 kp5 b4 b5 rF4 rF3 rQ3 rG3
 unfold pairN pairC at rQ5
 rw [hge2, hge3] at rQ5
 go_wp2_with fail
 rw [rounds_succ]
 go_wp2_with fail
 go_quiet (fail)
 go_wp2_with fail
 rw [rounds_succ]
 go_wp2_with fail
 refine wp_loop_rounds 2 ?_
 rw [rounds_succ]
 go_wp2_with fail
 go_quiet (fail)
 go_wp2_with fail
 go_quiet (fail)
 go_wp2_with fail
 refine calls_at (fun w6 => w5.heap.size ≤ w6.heap.size ∧ row w6 F = #[Value.int .i64 1, .int .i64 1] ∧ (∀ j, j < w5.heap.size → j ≠ F → w6.heap[j]? = w5.heap[j]?) ∧ Below B0 w5 w6) (drewN_set _ _ _ _ _ (by rw [rF5]; simp) (by rw [rF5]; simp) (by omega) (by omega)) (fun w6 ⟨z6, rF6, kp6, b6⟩ => ?_)
 have hgF6 : ∀ j, g1.ownBlock = some j → j ≠ F := fun j hj => by
  have h1 := (HG5.out.blk hj).1
  omega
 have hgF7 : ∀ j, g0.ownBlock = some j → j ≠ F := fun j hj => by have := hgF j hj; omega
 have zT5 : T < w5.heap.size := by omega
 have zN5 : N1 < w5.heap.size := lt_of_row (i := 0) (by rw [HN5.out]; simp [newS15, SessT.cells, oneK_length, twoK_length])
 refine (calm_4 Q A B B0 psk hp r k p d w6 T N1 g0 g1 w1.heap.size w4.heap.size _ hA hB hB0 (by omega) (by omega) ((row_of_block (kp6 T zT5 (Ne.symm hFT))).trans HT5.out) ((row_of_block (kp6 A (by omega) (by omega))).trans HA5.out) ((row_of_block (kp6 B (by omega) (by omega))).trans HB5.out) ((row_of_block (kp6 N1 zN5 (by omega))).trans HN5.out) ((row_of_block (kp6 Q (by omega) (by omega))).trans HQ5.out) (HO5.out.keep fun j hj => kp6 j (HO5.out.blk hj).2.1 (hgF7 j hj)) (by omega) (HG5.out.keep fun j hj => kp6 j (HG5.out.blk hj).2.1 (hgF6 j hj)) (by omega) (fun j hj => ⟨hgj5 j hj, by have := hgj5 j hj; omega⟩)).mono ?_
 rintro e w7 ⟨rfl, N0, g0', rQ7, rA7, rB7, rN7, rM7, gN7, hown7, howg7, z7, kp7, b7⟩
 have rF7 := (row_of_block (kp7 F (by omega) (by omega) (by omega) (fun e => hgF7 F e rfl))).trans rF6
 have K7 : ∀ j, j < w.heap.size → j ≠ Q → j ≠ A → j ≠ B → w7.heap[j]? = w.heap[j]? := fun j h1 h2 h3 h4 => by rw [kp7 j (by omega) h2 h3 (fun e => by have := (HO3.out.blk e).1; omega), kp6 j (by omega) (by omega), K5 j h1 h2 h3 h4]
 have B7 := B5.trans (b6.trans b7)
 have HQ7 := Lib.hid rQ7
 have HA7 := Lib.hid rA7
 have HB7 := Lib.hid rB7
 have HM7 := Lib.hid rM7
 have HN7 := Lib.hid rN7
 have HO7 := Lib.hid hown7
 have HG7 := Lib.hid howg7
 obtain ⟨G4, gc4, rest4, hge4, rG7, gG4, zG7⟩ := own_row howg7 (by simp)
 obtain ⟨G5, gc5, rest5, hge5, rG8, gG5, zG8⟩ := own_row hown7 (by simp)
 simp only [List.length_singleton, List.length_cons, List.length_nil, Nat.zero_add, Nat.reduceAdd, List.flatten_cons, List.flatten_nil, List.append_nil, List.cons_append, List.nil_append] at hge4 rG7 hge5 rG8
 have zQ7 : Q < w7.heap.size := by omega
 have zF7 : F < w7.heap.size := by omega
 clear rA7 rB7 rM7 rN7 hown7 howg7 kp6 kp7 b6 b7 rF6 rF5 rQ5 rG5 rG6
 unfold pairN pairC at rQ7
 rw [hge4, hge5] at rQ7
 go_wp2_with fail
 rw [rounds_succ]
 go_wp2_with fail
 go_quiet (fail)
 go_wp2_with fail
 rw [rounds_succ]
 go_wp2_with fail
 rw [rounds_succ]
 go_wp2_with fail
 go_quiet (fail)
 go_wp2_with fail
 refine wp_loop_rounds 3 ?_
 rw [rounds_succ]
 go_wp2_with fail
 refine wp_loop_rounds 2 ?_
 rw [rounds_succ]
 go_wp2_with fail
 go_quiet (fail)
 go_wp2_with fail
 go_quiet (fail)
 go_wp2_with fail
 refine calls_at (fun w8 => w7.heap.size ≤ w8.heap.size ∧ row w8 F = #[Value.int .i64 2, .int .i64 1] ∧ (∀ j, j < w7.heap.size → j ≠ F → w8.heap[j]? = w7.heap[j]?) ∧ Below B0 w7 w8) (drewN_set _ _ _ _ _ (by rw [rF7]; simp) (by rw [rF7]; simp) (by omega) (by omega)) (fun w8 ⟨z8, rF8, kp8, b8⟩ => ?_)
 have zN07 : N0 < w7.heap.size := lt_of_row (i := 0) (by rw [HM7.out]; simp [newS15, SessT.cells, oneK_length, twoK_length])
 have zN17 : N1 < w7.heap.size := by omega
 have hg1N : g1.ownBlock ≠ some N1 := fun e => by
  have h1 := own_first HG5.out e
  rw [HN5.out] at h1
  have hc : ∃ z l', (newS15 (twoK psk (secL 1) (secL 3)) (oneK psk (secL 1) (secL 3)) 1 1).cells = Value.int .u8 z :: l' := sess_first (twoK_length _ _ _)
  obtain ⟨z, l', hc⟩ := hc
  rw [hc] at h1
  simp at h1
 refine (calm_5 Q A B B0 psk hp r k p d w8 N0 N1 g0' g1 w4.heap.size _ hA hB hB0 (by omega) (by omega) ((row_of_block (kp8 A (by omega) (by omega))).trans HA7.out) ((row_of_block (kp8 B (by omega) (by omega))).trans HB7.out) ((row_of_block (kp8 N0 zN07 (by omega))).trans HM7.out) ((row_of_block (kp8 N1 zN17 (by omega))).trans HN7.out) ((row_of_block (kp8 Q (by omega) (by omega))).trans HQ7.out) (HG7.out.keep fun j hj => kp8 j (HG7.out.blk hj).2.1 (hgF6 j hj)) (by omega) (by simp) (by omega) hg1N).mono ?_
 rintro e w9 ⟨rfl, rQ9, rA9, rB9, rM9, rN9, z9, kp9, b9⟩
 have rF9 := (row_of_block (kp9 F (by omega) (by omega) (by omega) (by omega))).trans rF8
 have K9 : ∀ j, j < w.heap.size → j ≠ Q → j ≠ A → j ≠ B → w9.heap[j]? = w.heap[j]? := fun j h1 h2 h3 h4 => by rw [kp9 j (by omega) h2 h4 (by omega), kp8 j (by omega) (by omega), K7 j h1 h2 h3 h4]
 have B9 := B7.trans (b8.trans b9)
 have HQ9 := Lib.hid rQ9
 have HA9 := Lib.hid rA9
 have HB9 := Lib.hid rB9
 have HM9 := Lib.hid rM9
 have HN9 := Lib.hid rN9
 have zQ9 : Q < w9.heap.size := by omega
 have zF9 : F < w9.heap.size := by omega
 have gN0 : Q < N0 := by omega
 have gN1 : Q < N1 := by omega
 clear rA9 rB9 rM9 rN9 kp8 kp9 b8 b9 rF8 rF7 rQ7 rG7 rG8
 unfold pairN pairC at rQ9
 rw [hge4, hge5] at rQ9
 go_wp2_with fail
 rw [rounds_succ]
 go_wp2_with fail
 go_quiet (fail)
 go_wp2_with fail
 rw [rounds_succ]
 go_wp2_with fail
 refine wp_loop_rounds 1 ?_
 rw [rounds_succ]
 go_wp2_with fail
 go_quiet (fail)
 go_wp2_with fail
 rw [rounds_succ]
 go_wp2_with fail
 rw [rounds_succ]
 go_wp2_with fail
 go_quiet (fail)
 go_wp2_with fail
 rw [rounds_succ]
 go_wp2_with fail
 go_end0
 exact ⟨rfl, N0, N1, g0', g1, HQ9.out, HA9.out, HB9.out, HN9.out, HM9.out, gN0, gN1, K9, B9.trans (below_drewN (Below.refl B0 w9) _)⟩
end
section
open Go.RowKit
attribute [local irreducible] sealL nonceL tagL maskL greetL hailT replyL oneK twoK secL gramL
section
variable (psk sec : List UInt8) (g : Bool) (r k p d now asked made last : Int) (A : Nat) (S : Nat) (w : World) (hp : psk.length = 32)
include hp
theorem tick_live (s : SessT) (hs : s.ok) (hc : s.count ≤ 1000) (hA : A ≠ S) (hsec : sec.length = 32) (hn : 0 ≤ now ∧ now ≤ 1000) (hb0 : 0 ≤ s.born ∧ s.born ≤ 1000) (ht0 : 0 ≤ s.taken ∧ s.taken ≤ 1000) (he0 : 0 ≤ s.sent ∧ s.sent ≤ now) (hk2 : k ≤ 70000) (h1 : now + 1 - s.taken < d) (h2 : now + 1 - s.born < k)
  (hS : row w S = (⟨psk, g, r, k, p, d, now, (some ⟨A, 0, none⟩), none, none, none, asked, made, last⟩ : LinkT).cells.toArray) (hT : row w A = s.cells.toArray) :
  Calls Tryz.prog 16 #[.pointer (some ⟨S, 0, none⟩), .agg (u8s sec).toArray] w fun e w' => (∃ v, e = .returned v) ∧ row w' S = (⟨psk, g, r, k, p, d, (now + 1), (some ⟨A, 0, none⟩), none, none, none, asked, made, last⟩ : LinkT).cells.toArray ∧ (∃ c' st, c' ≤ s.count + 1 ∧ 0 ≤ st ∧ st ≤ now + 1 ∧ row w' A = ({ s with count := c', sent := st } : SessT).cells.toArray) ∧ BelowS w.heap.size [S, A] w w' := by
 by_cases h3 : p ≤ now + 1 - s.sent
 ·
  refine (tick_keep psk sec g r k p d now asked made last A none none none S w hp s hs (by omega) hA hsec (by omega) (by omega) (by omega) (by omega) hk2 h1 h2 h3 hS hT).mono ?_
  rintro e w' ⟨h, r1, r2, b⟩
  exact ⟨h, r1, ⟨s.count + 1, now + 1, Nat.le_refl _, by omega, Int.le_refl _, r2⟩, b⟩
 ·
  refine (tick_quiet psk sec g r k p d now asked made last A none none none S w hp s hs (by omega) hA hsec (by omega) (by omega) (by omega) (by omega) hk2 h1 h2 (by omega) hS hT).mono ?_
  rintro e w' ⟨h, r1, r2, b⟩
  exact ⟨⟨_, h⟩, r1, ⟨s.count, s.sent, by omega, by omega, by omega, r2⟩, BelowS.one b (by simp)⟩
theorem tick_dead (s : SessT) (hs : s.ok) (hc : s.count ≤ 1000) (hA : A ≠ S) (hsec : sec.length = 32) (hn : 0 ≤ now ∧ now ≤ 1000) (hb0 : 0 ≤ s.born ∧ s.born ≤ 1000) (ht0 : 0 ≤ s.taken ∧ s.taken ≤ 1000) (he0 : 0 ≤ s.sent ∧ s.sent ≤ now) (hk2 : k ≤ 70000) (h1 : d ≤ now + 1 - s.taken)
  (hS : row w S = (⟨psk, g, r, k, p, d, now, (some ⟨A, 0, none⟩), none, none, none, asked, made, last⟩ : LinkT).cells.toArray) (hT : row w A = s.cells.toArray) :
  Calls Tryz.prog 16 #[.pointer (some ⟨S, 0, none⟩), .agg (u8s sec).toArray] w fun e w' => (∃ v, e = .returned v) ∧ (∃ tk ask2, row w' S = (⟨psk, g, r, k, p, d, (now + 1), none, none, none, tk, ask2, made, last⟩ : LinkT).cells.toArray) ∧ BelowBut w.heap.size S w w' := by
 cases g with
 | true => exact tick_dead_t psk sec r k p d now asked made last A none none S w hp s hs (by omega) hA hsec (by omega) (by omega) (by omega) (by omega) hk2 h1 hS hT
 | false => exact tick_dead_f psk sec r k p d now asked made last A none none none S w hp s hs (by omega) hA hsec (by omega) (by omega) (by omega) (by omega) hk2 h1 hS hT
end
end
section
open Go.RowKit
theorem dies_wrap (a b : Nat) (ha : a ≤ 20) (hb : b ≤ 20) : IntKind.i64.wrap ((a : Int) + (b : Int)) = (a : Int) + (b : Int) ∧ IntKind.i64.wrap ((a : Int) + (b : Int) + 2) = ((a + b + 2 : Nat) : Int) ∧ wrap64 ((a : Int) + (b : Int)) = (a : Int) + (b : Int) ∧ wrap64 ((a : Int) + (b : Int) + 2) = ((a + b + 2 : Nat) : Int) := by
 refine ⟨by rw [IntKind.wrap_i64]; omega, by rw [IntKind.wrap_i64]; omega, by unfold wrap64; omega, by unfold wrap64; omega⟩
theorem wrap_succ15 (j : Nat) (h : j ≤ 1000) : wrap64 ((j : Int) + 1) = (j : Int) + 1 ∧ IntKind.i64.wrap ((j : Int) + 1) = (j : Int) + 1 := ⟨by unfold wrap64; omega, by rw [IntKind.wrap_i64]; omega⟩
attribute [local irreducible] sealL nonceL tagL maskL greetL hailT replyL oneK twoK secL gramL
set_option maxRecDepth 20000 in
set_option maxHeartbeats 8000000 in
theorem linkDies_any (psk : List UInt8) (hp : psk.length = 32) (x0 x1 x2 x3 : UInt8) (en : Nat) (hen : en < 256) (w : World) :
  Calls Tryz.prog 4 #[.agg (u8s psk).toArray, .agg (u8s [x0, x1, x2, x3]).toArray, .int .u8 (en : Int)] w fun e w' => e = .returned (.bool true) ∧ Below w.heap.size w w' := by
 obtain ⟨r, hr⟩ : ∃ r, 1 + x0.toNat % 20 = r := ⟨_, rfl⟩
 obtain ⟨k0, hk0⟩ : ∃ r, 1 + x1.toNat % 20 = r := ⟨_, rfl⟩
 obtain ⟨p, hpp⟩ : ∃ r, 1 + x2.toNat % 20 = r := ⟨_, rfl⟩
 obtain ⟨d0, hd0⟩ : ∃ r, 1 + x3.toNat % 20 = r := ⟨_, rfl⟩
 have hr1 : (1 + (x0.toNat : Int) % 20) = (r : Int) := by omega
 have hk1 : (1 + (x1.toNat : Int) % 20) = (k0 : Int) := by omega
 have hp1 : (1 + (x2.toNat : Int) % 20) = (p : Int) := by omega
 have hd1 : (1 + (x3.toNat : Int) % 20) = (d0 : Int) := by omega
 have hrb : 1 ≤ r ∧ r ≤ 20 := by omega
 have hpb : 1 ≤ p ∧ p ≤ 20 := by omega
 have hdb : 1 ≤ d0 ∧ d0 ≤ 20 := by omega
 have HE := fun w => held_any x0 x1 x2 x3 w
 rw [hr1, hk1, hp1, hd1] at HE
 have HE2 := Lib.hid HE
 clear HE hr1 hk1 hp1 hd1 hr hk0 hpp hd0
 go_enter Tryz.func4, Tryz.ntmps4
 obtain ⟨W1, hW1⟩ : ∃ v, w.alloc (.cells (u8s psk).toArray 23) = v := ⟨_, rfl⟩
 have q1 : Below w.heap.size w W1 := by rw [← hW1]; exact Below.alloc (Below.refl _ _) (Nat.le_refl _) _
 have z1 : W1.heap.size = w.heap.size + 1 := by rw [← hW1, alloc_sizeW]
 have rP : row W1 w.heap.size = (u8s psk).toArray := by rw [← hW1]; exact row_alloc_at _ _ _ rfl
 obtain ⟨W2, hW2⟩ : ∃ v, W1.alloc (.cells (u8s [x0, x1, x2, x3]).toArray 40) = v := ⟨_, rfl⟩
 have q2 : Below w.heap.size w W2 := by rw [← hW2]; exact Below.alloc q1 (by omega) _
 have z2 : W2.heap.size = w.heap.size + 1 + 1 := by rw [← hW2, alloc_sizeW, z1]
 have rT : row W2 (w.heap.size + 1) = (u8s [x0, x1, x2, x3]).toArray := by rw [← hW2, ← z1]; exact row_alloc_at _ _ _ rfl
 have rP2 : row W2 w.heap.size = (u8s psk).toArray := by rw [← hW2, row_alloc_past _ _ (by omega)]; exact rP
 go_wp2_with fail
 (try clear hW1)
 (try clear hW2)
 refine (awake15_any _).mono ?_
 rintro e w3 ⟨rfl, b3⟩
 have rP3 := (row_below b3 (by omega)).trans rP2
 have rT3 := (row_below b3 (by omega)).trans rT
 have z3 := b3.size
 have B3 := q2.trans (b3.mono (by omega))
 have hzP : w.heap.size < w3.heap.size := by omega
 have hzT : w.heap.size + 1 < w3.heap.size := by omega
 clear b3 rP2 rT rP q1 q2 z1
 go_wp2_with fail
 refine (HE2.out _).mono ?_
 rintro e w4 ⟨rfl, b4⟩
 obtain ⟨w5, hw5⟩ : ∃ x, w4.alloc (.cells #[.int .i64 (r : Int), .int .i64 (k0 : Int), .int .i64 (p : Int), .int .i64 (d0 : Int)] 42) = x := ⟨_, rfl⟩
 have z5 : w5.heap.size = w4.heap.size + 1 := by rw [← hw5, alloc_sizeW]
 have b5 : Below w4.heap.size w4 w5 := by rw [← hw5]; exact Below.alloc (Below.refl _ _) (Nat.le_refl _) _
 have r5 : row w5 w4.heap.size = #[.int .i64 (r : Int), .int .i64 (k0 : Int), .int .i64 (p : Int), .int .i64 (d0 : Int)] := by rw [← hw5]; exact row_alloc_at _ _ _ rfl
 obtain ⟨w6, hw6⟩ : ∃ x, w5.setRow w4.heap.size #[.int .i64 (r : Int), .int .i64 100, .int .i64 (p : Int), .int .i64 (d0 : Int)] = x := ⟨_, rfl⟩
 have z6 : w6.heap.size = w5.heap.size := by rw [← hw6, setRow_size]
 have b6 : Below w4.heap.size w4 w6 := by rw [← hw6]; exact Below.setRow b5 (Nat.le_refl _) _
 have r6 : row w6 w4.heap.size = #[.int .i64 (r : Int), .int .i64 100, .int .i64 (p : Int), .int .i64 (d0 : Int)] := by rw [← hw6]; exact row_setRow_same (by rw [r5]; simp) (by rw [r5]; rfl)
 obtain ⟨d, hd⟩ : ∃ x, d0 + p + 2 = x := ⟨_, rfl⟩
 obtain ⟨w7, hw7⟩ : ∃ x, w6.setRow w4.heap.size #[.int .i64 (r : Int), .int .i64 100, .int .i64 (p : Int), .int .i64 (d : Int)] = x := ⟨_, rfl⟩
 have z7 : w7.heap.size = w6.heap.size := by rw [← hw7, setRow_size]
 have b7 : Below w4.heap.size w4 w7 := by rw [← hw7]; exact Below.setRow b6 (Nat.le_refl _) _
 have r7 : row w7 w4.heap.size = #[.int .i64 (r : Int), .int .i64 100, .int .i64 (p : Int), .int .i64 (d : Int)] := by rw [← hw7]; exact row_setRow_same (by rw [r6]; simp) (by rw [r6]; rfl)
 obtain ⟨m1, m2, m3, m4⟩ := dies_wrap d0 p hdb.2 hpb.2
 rw [hd] at m2 m4
 have k4 : w4.heap.size < w7.heap.size := by omega
 have rP7 := (row_below (b4.trans (b7.mono b4.size)) hzP).trans rP3
 go_wp2_with fail
 have B7 : Below w.heap.size w w7 := B3.trans ((b4.mono (by omega)).trans (b7.mono (by have := b4.size; omega)))
 have k0 : w.heap.size < w4.heap.size := by have := b4.size; omega
 have k1 : w.heap.size < w7.heap.size := by omega
 clear hw5 hw6 hw7 r5 r6 b5 b6 z6 z7 z5 rP3 m1 m2 m3 m4
 have hdb2 : 4 ≤ d ∧ d ≤ 42 := by omega
 refine (two_any psk hp r 100 p d (by unfold okTimes okTime; omega) w7).mono ?_
 rintro e w8 ⟨Q, A, B, rfl, gA, gB, gQ, zQ8, rA8, rB8, rQ8, b8⟩
 have z8 := b8.size
 have r8 := (row_below b8 k4).trans r7
 have B8 : Below w.heap.size w w8 := B7.trans (b8.mono (by omega))
 have HA8 := Lib.hid rA8
 have HB8 := Lib.hid rB8
 have HQ8 := Lib.hid rQ8
 clear rA8 rB8 rQ8 b8 b7 b4 B3 r7 rT3 rP7 hzP hzT
 go_wp2_with fail
 refine (calm_any Q A B w.heap.size psk hp r 100 p d w8 gB gQ (by omega) HA8.out HB8.out HQ8.out).mono ?_
 rintro e w9 ⟨rfl, N0, N1, g0, g1, rQ9, rA9, rB9, rN9, rM9, gN0, gN1, K9, b9⟩
 have z9 := b9.size
 have r9 := (row_of_block (K9 w4.heap.size (by omega) (by omega) (by omega) (by omega))).trans r8
 have B9 := B8.trans b9
 have zA9 : A < w9.heap.size := lt_of_row (i := 0) (by rw [rA9]; simp [LinkT.cells, hp])
 have zB9 : B < w9.heap.size := lt_of_row (i := 0) (by rw [rB9]; simp [LinkT.cells, hp])
 have zQ9 : Q < w9.heap.size := by omega
 have zM9 : N1 < w9.heap.size := lt_of_row (i := 0) (by rw [rM9]; simp [newS15, SessT.cells, oneK_length, twoK_length])
 have zN9 : N0 < w9.heap.size := lt_of_row (i := 0) (by rw [rN9]; simp [newS15, SessT.cells, oneK_length, twoK_length])
 obtain ⟨u, hu⟩ : ∃ u, en % 2 = u := ⟨_, rfl⟩
 have hu2 : u < 2 := by omega
 have hm5 : Int.tmod (en : Int) 2 = (u : Int) := by rw [Int.tmod_eq_emod_of_nonneg (by omega)]; omega
 have hm6 : IntKind.u8.wrap (u : Int) = (u : Int) := by rw [IntKind.wrap_u8]; omega
 have hsel : ∃ S N g ask made last s, w9.cell? ⟨Q, u, none⟩ = some (.pointer (some ⟨S, 0, none⟩)) ∧ row w9 S = (⟨psk, g, (r : Int), 100, (p : Int), (d : Int), 1, some ⟨N, 0, none⟩, none, none, none, ask, made, last⟩ : LinkT).cells.toArray ∧ row w9 N = (s : SessT).cells.toArray ∧ s.ok ∧ s.count ≤ 1 ∧ s.born = 1 ∧ s.taken = 1 ∧ 0 ≤ s.sent ∧ s.sent ≤ 1 ∧ S < Q ∧ Q < N ∧ w4.heap.size < S ∧ N < w9.heap.size := by
  rcases (show u = 0 ∨ u = 1 by omega) with rfl | rfl
  ·
   exact ⟨A, N0, true, 1, 1, 0, _, by rw [cell_of_row' (by rw [rQ9]; simp [pairN, pairC]), rQ9]; rfl, rA9, rN9, ⟨oneK_length _ _ _, twoK_length _ _ _⟩, Nat.le_refl _, rfl, rfl, by show (0 : Int) ≤ 1; omega, Int.le_refl _, by omega, gN0, by omega, zN9⟩
  ·
   exact ⟨B, N1, false, 0, 1, 1, _, by rw [cell_of_row' (by rw [rQ9]; simp [pairN, pairC]), rQ9]; rfl, rB9, rM9, ⟨twoK_length _ _ _, oneK_length _ _ _⟩, Nat.zero_le _, rfl, rfl, by show (0 : Int) ≤ 1; omega, Int.le_refl _, by omega, gN1, by omega, zM9⟩
 clear rA9 rB9 rM9 rN9 K9 b9 HA8 HB8 HQ8 r8 zA9 zB9 zM9 zN9
 obtain ⟨S, N, g, ask, made, last, s, cQ, rS, rN, hok, hcnt, hborn, htak, hs0, hs1, gSQ, gQN, gHS, zN9⟩ := hsel
 go_wp2_with fail
 go_loopw [11] (fun i wr => (∃ (j : Nat) (s' : SessT), 1 ≤ j ∧ j ≤ d ∧ i = .int .i64 (j : Int) ∧ row wr S = (⟨psk, g, (r : Int), 100, (p : Int), (d : Int), (j : Int), some ⟨N, 0, none⟩, none, none, none, ask, made, last⟩ : LinkT).cells.toArray ∧ row wr N = s'.cells.toArray ∧ s'.ok ∧ s'.count ≤ j ∧ s'.born = 1 ∧ s'.taken = 1 ∧ 0 ≤ s'.sent ∧ s'.sent ≤ (j : Int) ∧ row wr Q = pairN A B g0 g1 (5 + j - 1) ∧ row wr w4.heap.size = #[.int .i64 (r : Int), .int .i64 100, .int .i64 (p : Int), .int .i64 (d : Int)] ∧ Below w.heap.size w wr) ∨
  (i = .int .i64 ((d : Int) + 1) ∧ (∃ tk ask2, row wr S = (⟨psk, g, (r : Int), 100, (p : Int), (d : Int), (d : Int) + 1, none, none, none, tk, ask2, made, last⟩ : LinkT).cells.toArray) ∧ row wr w4.heap.size = #[.int .i64 (r : Int), .int .i64 100, .int .i64 (p : Int), .int .i64 (d : Int)] ∧ Below w.heap.size w wr)) (fun i _ => d + 1 - (intOf i).toNat)
 case atStart =>
  exact .inl ⟨1, s, Nat.le_refl _, by omega, rfl, rS, rN, hok, hcnt, hborn, htak, hs0, hs1, rQ9, r9, B9⟩
 case round =>
  clear rQ9 r9 B9 rS rN hok hcnt hborn htak hs0 hs1 cQ
  rcases hrel with ⟨j, s', hj1, hjd, rfl, rSr, rNr, hok, hcnt, hborn, htak, hs0, hs1, rQr, rHr, Br⟩ | ⟨rfl, ⟨tk, ask2, rSr⟩, rHr, Br⟩
  ·
   have hle : (j : Int) ≤ (d : Int) := by omega
   have zSr : S < wr.heap.size := lt_of_row (i := 0) (by rw [rSr]; simp [LinkT.cells, hp])
   have zNr : N < wr.heap.size := lt_of_row (i := 0) (by rw [rNr]; simp [SessT.cells, hok.k1, hok.k2])
   have zQr : Q < wr.heap.size := lt_of_row (i := 0) (by rw [rQr]; simp [pairN, pairC])
   have HS := Lib.hid rSr
   have HN := Lib.hid rNr
   have HQ := Lib.hid rQr
   clear rSr rNr rQr
   go_wp2_with fail
   refine (up_yes psk g r 100 p d j ask made last N none none none S wr hp HS.out).mono ?_
   rintro e w10 ⟨rfl, rfl⟩
   go_wp2_with fail
   refine (draw_any Q _ _ g0 g1 _ _ _ _ (5 + j - 1) false (by omega) w10 HQ.out).mono ?_
   rintro e w11 ⟨rfl, rQ11, b11⟩
   have z11 := b11.size
   have rS11 := (b11.row zSr (by omega)).trans HS.out
   have rN11 := (b11.row zNr (by omega)).trans HN.out
   have rH11 := (b11.row (show w4.heap.size < w10.heap.size by omega) (by omega)).trans rHr
   have B11 := Br.trans ((b11.mono (B' := w.heap.size) (by omega)).below (by omega))
   rw [show 5 + j - 1 + 1 = 5 + (j + 1) - 1 by omega] at rQ11
   clear Br rHr
   go_wp2_with fail
   by_cases hjl : j < d
   ·
    refine (tick_live psk _ g r 100 p d j ask made last N S w11 hp s' hok (by omega) (by omega) (secL_length _) (by omega) (by omega) (by omega) (by omega) (by omega) (by omega) (by omega) rS11 rN11).mono ?_
    rintro e w12 ⟨⟨v, rfl⟩, rS12, ⟨c', st, hc', hst0, hst1, rN12⟩, b12⟩
    have rQ12 := (b12.row (by omega) (by simp; omega)).trans rQ11
    have rH12 := (b12.row (by omega) (by simp; omega)).trans rH11
    have B12 := B11.trans (b12.below (B' := w.heap.size) (by have := B11.size; omega) (by simp; omega))
    clear rS11 rN11 rQ11 rH11 b11 b12 B11 HS HN HQ
    obtain ⟨hw1, hw2⟩ := wrap_succ15 j (by omega)
    go_wp2_with fail
    clear hw1 hw2
    go_roundw
    case rel => exact .inl ⟨j + 1, _, by omega, by omega, by simp, rS12, rN12, ⟨hok.k1, hok.k2⟩, by show c' ≤ j + 1; omega, hborn, htak, hst0, by show st ≤ ((j + 1 : Nat) : Int); omega, rQ12, rH12, B12⟩
    case measure => simp [intOf]; omega
   ·
    obtain rfl : j = d := by omega
    refine (tick_dead psk _ g r 100 p j j ask made last N S w11 hp s' hok (by omega) (by omega) (secL_length _) (by omega) (by omega) (by omega) (by omega) (by omega) (by omega) rS11 rN11).mono ?_
    rintro e w12 ⟨⟨v, rfl⟩, ⟨tk, ask2, rS12⟩, b12⟩
    have rH12 := (b12.row (by omega) (by omega)).trans rH11
    have B12 := B11.trans ((b12.mono (B' := w.heap.size) (by omega)).below (by omega))
    clear rS11 rN11 rQ11 rH11 b11 b12 B11 HS HN HQ
    obtain ⟨hw1, hw2⟩ := wrap_succ15 j (by omega)
    go_wp2_with fail
    clear hw1 hw2
    go_roundw
    case rel => exact .inr ⟨by simp, ⟨tk, ask2, rS12⟩, rH12, B12⟩
    case measure => simp [intOf]
  ·
   have hle : ¬ (d : Int) + 1 ≤ (d : Int) := by omega
   have HS := Lib.hid rSr
   clear rSr
   go_wp2_with fail
   refine (up_no psk g r 100 p d _ _ made last none none tk S wr hp HS.out).mono ?_
   rintro e w10 ⟨rfl, rfl⟩
   go_wp2_with fail
   go_ret
   exact ⟨rfl, Br⟩
theorem linkDies_walk (W : World) (base : Nat) (args : Array Value) (hlen : args.size = Tryz.f4.params.size) (hval : ∀ (j : Nat) t v, Tryz.f4.params[j]? = some t → args[j]? = some v → Value.okWide Tryz.prog W .any base t v) :
  Calls Tryz.prog 4 args W fun e W' => e = .returned (.bool true) ∧ Below W.heap.size W W' := by
 obtain ⟨l⟩ := args
 match l, hlen with
 | [v0, v1, v2], _ =>
 obtain ⟨p, rfl, hp⟩ := open_key (hval 0 23 v0 rfl rfl)
 obtain ⟨vs, rfl, hg⟩ := open_plain (ls := leaves 4 (.int .u8) ++ []) Tryz.underlying40 rfl (by kernel_rfl) (by kernel_rfl) (hval 1 40 v1 rfl rfl)
 obtain ⟨m, q, rfl, hg2⟩ := goods_u8 hg
 have := goods_nil hg2
 subst this
 rw [List.append_nil]
 obtain ⟨n, rfl, hn⟩ := open_u8W Tryz.underlying5 (hval 2 5 v2 rfl rfl)
 obtain ⟨x0, x1, x2, x3, hm⟩ : ∃ x0 x1 x2 x3, u8v m = u8s [x0, x1, x2, x3] := by
  have hl : m.toList.length = 4 := by simp
  match h : m.toList, hl with
  | [a, b, c, d], _ => exact ⟨a, b, c, d, by unfold u8v; rw [h]⟩
 rw [hm]
 exact linkDies_any p hp x0 x1 x2 x3 n hn W
end
end Go.Proofs.YtakkicppgkmokaaGreat
