/- Texts of this proof, merged: LnkG, LnkT, LnkK, LnkW, LnkS, LnkI. -/
import Derived.Test.YtakkicppgkmokaaGreatJ7
import Derived.Test.YtakkicppgkmokaaGreatNoiVJ
import Derived.Test.YtakkicppgkmokaaGreatJ31
import Derived.Test.YtakkicppgkmokaaGreatJ25
import Derived.BigQuiet
import Derived.WalkSmall
set_option linter.unusedSimpArgs false
set_option linter.unusedVariables false
set_option maxRecDepth 4000
namespace Go.Proofs.YtakkicppgkmokaaGreat
section
open Go.RowKit
attribute [local irreducible] greetL hailT
theorem LinkT.cells_length (t : LinkT) (h : t.psk.length = 32) : t.cells.length = 45 := by simp [LinkT.cells, h]
set_option maxRecDepth 20000 in
set_option maxHeartbeats 2000000 in
theorem lgreet_go (psk sec : List UInt8) (r k p d now asked made last : Int) (b c : Option Addr) (S : Nat) (w : World) (hp : psk.length = 32) (hs : sec.length = 32) (hS : row w S = (⟨psk, true, r, k, p, d, now, none, b, c, none, asked, made, last⟩ : LinkT).cells.toArray) :
  Calls Tryz.prog 45 #[.pointer (some ⟨S, 0, none⟩), .agg (u8s sec).toArray] w fun e w' => ∃ T g, e = .returned (.slice (some ⟨g, 0, none⟩) 1 1) ∧ row w' g = #[.string ⟨(1 :: greetL psk sec).toArray⟩] ∧ w.heap.size ≤ g ∧ g < w'.heap.size ∧ row w' T = (hailT psk sec).cells.toArray ∧ w.heap.size ≤ T ∧ T < w'.heap.size ∧ T ≠ g ∧
   row w' S = (⟨psk, true, r, k, p, d, now, none, b, c, some ⟨T, 0, none⟩, now, made, last⟩ : LinkT).cells.toArray ∧ BelowBut w.heap.size S w w' := by
 have zS : S < w.heap.size := lt_of_row (i := 0) (by rw [hS]; simp [LinkT.cells, hp])
 have HG := Lib.hid (fun w => hello_any psk sec w hp hs)
 have lg := greetL_length psk sec
 obtain ⟨g, hg⟩ : ∃ g, greetL psk sec = g := ⟨_, rfl⟩
 obtain ⟨H, hH⟩ : ∃ g, hailT psk sec = g := ⟨_, rfl⟩
 rw [hg] at HG lg ⊢
 rw [hH] at HG ⊢
 have HP := Lib.hid (fun w => tunPrint12 w 1 (.inl rfl) g lg)
 rw [show byteI 1 = 1 from rfl] at HP
 have LG := Lib.hid lg
 clear hg hH lg
 unfold LinkT.cells at hS ⊢
 simp only at hS ⊢
 go_enter Tryz.func45, Tryz.ntmps45
 obtain ⟨W, hW⟩ : ∃ v, w.alloc (.cells (u8s sec).toArray 23) = v := ⟨_, rfl⟩
 have rK : row W w.heap.size = (u8s sec).toArray := by rw [← hW]; simp [go_sem]
 have zW : W.heap.size = w.heap.size + 1 := by rw [← hW]; simp
 have bW : Below w.heap.size w W := by
  rw [← hW]
  (repeat (first | exact Below.refl _ _ | refine Below.al ?_ _ | refine Below.drew ?_ | refine Below.sr ?_ _ | refine Below.sc ?_ _))
 have rS := (row_below bW (by omega)).trans hS
 have HRow := Lib.hid hS
 clear hS
 go_wp2_with fail
 clear hW
 refine wp_region_beginR [(S, (u8s psk ++ (Value.bool true :: Value.int .i64 r :: Value.int .i64 k :: Value.int .i64 p :: Value.int .i64 d :: Value.int .i64 now :: Value.pointer none :: Value.pointer b :: Value.pointer c :: Value.pointer none :: Value.int .i64 asked :: Value.int .i64 made :: [Value.int .i64 last])).toArray)] rfl (by simp only [Rws]; (repeat (first | exact trivial | refine ⟨(by first | assumption | (simp [go_sem, *]; done)), (by first | omega | (simp; done) | (simp; omega)), ?_⟩))) (fun hS => ?_)
 refine qp 0 hS ?_
 refine qp 1 hS ?_
 refine qp 2 hS ?_
 refine qn 3 hS ?_
 refine qn 4 hS ?_
 refine qn 5 hS ?_
 refine qn 6 hS ?_
 refine qn 7 hS ?_
 refine qn 8 hS ?_
 refine qn 9 hS ?_
 refine qn 10 hS ?_
 refine qn 11 hS ?_
 refine qn 12 hS ?_
 refine qn 13 hS ?_
 refine qn 14 hS ?_
 refine qn 15 hS ?_
 refine qn 16 hS ?_
 refine qn 17 hS ?_
 refine qp 18 hS ?_
 refine qp 19 hS ?_
 refine wpAnyR_done (by kernel_rfl) (fun w1 b1 => ?_) _
 replace b1 : Below (W).heap.size (W) w1 := below_step (Below.drew (Below.refl _ _)) b1
 have z1 := b1.size
 have rS1 := (row_below b1 (by omega)).trans rS
 have rK1 := (row_below b1 (by omega)).trans rK
 have bb1 := bW.trans (b1.mono (by omega))
 clear b1 rS rK bW hS
 go_wp2_with fail
 refine wp_region_beginR [(S, (u8s psk ++ (Value.bool true :: Value.int .i64 r :: Value.int .i64 k :: Value.int .i64 p :: Value.int .i64 d :: Value.int .i64 now :: Value.pointer none :: Value.pointer b :: Value.pointer c :: Value.pointer none :: Value.int .i64 asked :: Value.int .i64 made :: [Value.int .i64 last])).toArray)] rfl (by simp only [Rws]; (repeat (first | exact trivial | refine ⟨(by first | assumption | (simp [go_sem, *]; done)), (by first | omega | (simp; done) | (simp; omega)), ?_⟩))) (fun hS => ?_)
 refine qp 0 hS ?_
 refine qp 1 hS ?_
 refine qp 2 hS ?_
 refine qp 3 hS ?_
 refine qp 4 hS ?_
 refine qp 5 hS ?_
 refine qp 6 hS ?_
 refine qp 7 hS ?_
 refine qp 8 hS ?_
 refine qp 9 hS ?_
 refine qp 10 hS ?_
 refine qp 11 hS ?_
 refine qp 12 hS ?_
 refine qp 13 hS ?_
 refine qp 14 hS ?_
 refine qp 15 hS ?_
 refine qn 16 hS ?_
 refine qn 17 hS ?_
 refine qn 18 hS ?_
 refine qn 19 hS ?_
 refine qn 20 hS ?_
 refine qn 21 hS ?_
 refine qn 22 hS ?_
 refine qn 23 hS ?_
 refine qn 24 hS ?_
 refine qn 25 hS ?_
 refine qn 26 hS ?_
 refine qn 27 hS ?_
 refine qn 28 hS ?_
 refine qn 29 hS ?_
 refine qn 30 hS ?_
 refine qp 31 hS ?_
 refine qp 32 hS ?_
 refine wpAnyR_done (by kernel_rfl) (fun w2 b2 => ?_) _
 replace b2 : Below (w1).heap.size (w1) w2 := below_step (Below.drew (Below.refl _ _)) b2
 have z2 := b2.size
 have rS2 := (row_below b2 (by omega)).trans rS1
 have rK2 := (row_below b2 (by omega)).trans rK1
 have bb2 := bb1.trans (b2.mono (by omega))
 clear b2 rS1 rK1 bb1 hS
 go_wp2_with fail
 refine wp_region_beginR [(S, (u8s psk ++ (Value.bool true :: Value.int .i64 r :: Value.int .i64 k :: Value.int .i64 p :: Value.int .i64 d :: Value.int .i64 now :: Value.pointer none :: Value.pointer b :: Value.pointer c :: Value.pointer none :: Value.int .i64 asked :: Value.int .i64 made :: [Value.int .i64 last])).toArray), (w.heap.size, (u8s sec).toArray)] rfl (by simp only [Rws]; (repeat (first | exact trivial | refine ⟨(by first | assumption | (simp [go_sem, *]; done)), (by first | omega | (simp; done) | (simp; omega)), ?_⟩))) (fun hS => ?_)
 refine qp 0 hS ?_
 refine qp 1 hS ?_
 refine qp 2 hS ?_
 refine qp 3 hS ?_
 refine qp 4 hS ?_
 refine wpAnyR_all (rs := [5]) (by kernel_rfl) (by simp) (Rws.grow _) hS (fun u1 hu1 hSW => ?_)
 intro i hi
 obtain rfl := List.mem_singleton.1 hi
 refine wpOp_step rfl (fun K hK => ?_)
 simp only [Rws] at hSW
 clear hi hS
 go_simp
 have zu1 : w2.heap.size ≤ u1.heap.size := hu1.size
 have cu1 : Below w2.heap.size w2 u1 := Below.trans (Below.drew (Below.refl _ _)) hu1
 refine (HG.out _).mono ?_
 rintro e w3 ⟨T, rfl, gT, zT, rT, b3⟩
 have z3 := b3.size
 have b23 : Below w2.heap.size w2 w3 := cu1.trans (b3.mono zu1)
 have hS : Rws [(S, (u8s psk ++ (Value.bool true :: Value.int .i64 r :: Value.int .i64 k :: Value.int .i64 p :: Value.int .i64 d :: Value.int .i64 now :: Value.pointer none :: Value.pointer b :: Value.pointer c :: Value.pointer none :: Value.int .i64 asked :: Value.int .i64 made :: [Value.int .i64 last])).toArray), (w.heap.size, (u8s sec).toArray)] w3 := ⟨(row_below b23 (by omega)).trans rS2, by omega, (row_below b23 (by omega)).trans rK2, by omega, trivial⟩
 refine hK _ _ ⟨hS, ?_⟩
 have rS3 := hS.1
 clear hK K hSW hu1 b3
 (try simp only [Act.put, List.setIfInBounds_toArray, List.set_cons_zero, List.set_cons_succ])
 refine qp 6 hS ?_
 refine qp 7 hS ?_
 refine qp 8 hS ?_
 refine qp 9 hS ?_
 refine qp 10 hS ?_
 refine wpAnyR_done (by kernel_rfl) (fun w4 b4 => ?_) _
 have z4 := b4.size
 have rS4 := (row_below b4 (by omega)).trans rS3
 have rT4 := (row_below b4 zT).trans rT
 have bb4 := bb2.trans ((b23.mono (by omega)).trans (b4.mono (by omega)))
 clear b4 b23 cu1 rT rS3 rS2 rK2 bb2 hS
 obtain ⟨W5, hW5⟩ : ∃ v, w4.setRow S (u8s psk ++ [Value.bool true, Value.int .i64 r, Value.int .i64 k, Value.int .i64 p, Value.int .i64 d, Value.int .i64 now, Value.pointer none, Value.pointer b, Value.pointer c, Value.pointer (some ⟨T, 0, none⟩), Value.int .i64 now, Value.int .i64 made, Value.int .i64 last]).toArray = v := ⟨_, rfl⟩
 have r5 : row W5 S = (u8s psk ++ [Value.bool true, Value.int .i64 r, Value.int .i64 k, Value.int .i64 p, Value.int .i64 d, Value.int .i64 now, Value.pointer none, Value.pointer b, Value.pointer c, Value.pointer (some ⟨T, 0, none⟩), Value.int .i64 now, Value.int .i64 made, Value.int .i64 last]).toArray := by rw [← hW5]; exact row_setRow_same (by rw [rS4]; simp) (by rw [rS4]; simp)
 have b5 : BelowBut w.heap.size S w W5 := by rw [← hW5]; exact (BelowBut.of bb4).trans (BelowBut.set _ _)
 have rT5 : row W5 T = H.cells.toArray := by rw [← hW5, row_setRow_other _ _ _ (by omega)]; exact rT4
 have z5 : W5.heap.size = w4.heap.size := by rw [← hW5]; simp
 go_wp2_with fail
 (try rw [hW5])
 clear hW5 rS4 rT4 bb4
 refine (HP.out _).mono ?_
 rintro e w6 ⟨rfl, b6⟩
 have z6 := b6.size
 have r6 := (row_below b6 (by omega)).trans r5
 have rT6 := (row_below b6 (by omega)).trans rT5
 have c6 := b5.trans ((BelowBut.of b6).mono (by omega))
 clear b5 b6 r5 rT5
 go_wp2_with fail
 go_ret
 refine ⟨T, w6.heap.size, by simp, row_alloc_at _ _ _ rfl, by omega, by rw [alloc_sizeW]; omega, (row_alloc_past _ _ (by omega)).trans rT6, by omega, by rw [alloc_sizeW]; omega, by omega, (row_alloc_past _ _ (by omega)).trans r6, c6.trans (BelowBut.of (Below.alloc (Below.refl _ _) (by omega) _))⟩
end
section
open Go.RowKit
attribute [local irreducible] greetL hailT
theorem run_index_all (x y z : Option Addr) (j : Nat) (q : Option Addr) (hj : [x, y, z][j]? = some q) (w : World) :
  (Instr.index 92 (.agg #[.pointer x, .pointer y, .pointer z]) (.int .i64 j)).run Tryz.prog w = .ok (.pointer q) w := by
 have hk2 : j < 3 := by
  have := List.getElem?_eq_some_iff.1 hj
  obtain ⟨h, _⟩ := this
  simpa using h
 have hinfo : (Tryz.prog.info? 91).map (fun i => i.size) = some 1 := by kernel_rfl
 obtain ⟨inf, hi, hsz⟩ := Option.map_eq_some_iff.1 hinfo
 have hg : [Value.pointer x, Value.pointer y, Value.pointer z][j]? = some (.pointer q) := by
  match j, hj with
  | 0, h => simp at h; simp [h]
  | 1, h => simp at h; simp [h]
  | 2, h => simp at h; simp [h]
  | (n + 3), h => simp at h
 simp [Instr.index, run_underlying Tryz.underlying92, run_underlying Tryz.underlying91, asIntOf, isAgg, hk2, sizeOf, typeInfo, hi, hsz, part, hg, go_sem]
 exact (List.getElem?_eq_some_iff.1 hg).2
section
variable (psk sec : List UInt8) (r k p d now asked made last : Int) (S : Nat) (w : World) (hp : psk.length = 32) (hS : row w S = (⟨psk, true, r, k, p, d, now, none, none, none, none, asked, made, last⟩ : LinkT).cells.toArray)
include hp hS
end
end
section
open Go.RowKit
attribute [local irreducible] greetL hailT
set_option maxRecDepth 20000 in
set_option maxHeartbeats 2000000 in
theorem ltick_go (psk sec : List UInt8) (r k p d now asked made last : Int) (b c : Option Addr) (S : Nat) (w : World) (hp : psk.length = 32) (hs : sec.length = 32) (hn : 0 ≤ now ∧ now ≤ 100000000) (hS : row w S = (⟨psk, true, r, k, p, d, now, none, b, c, none, asked, made, last⟩ : LinkT).cells.toArray) :
  Calls Tryz.prog 16 #[.pointer (some ⟨S, 0, none⟩), .agg (u8s sec).toArray] w fun e w' => ∃ T g, e = .returned (.slice (some ⟨g, 0, none⟩) 1 1) ∧ row w' g = #[.string ⟨(1 :: greetL psk sec).toArray⟩] ∧ w.heap.size ≤ g ∧ g < w'.heap.size ∧ row w' T = (hailT psk sec).cells.toArray ∧ w.heap.size ≤ T ∧ T < w'.heap.size ∧ T ≠ g ∧
   row w' S = (⟨psk, true, r, k, p, d, now + 1, none, b, c, some ⟨T, 0, none⟩, now + 1, made, last⟩ : LinkT).cells.toArray ∧ BelowBut w.heap.size S w w' := by
 have zS : S < w.heap.size := lt_of_row (i := 0) (by rw [hS]; simp [LinkT.cells, hp])
 have HG := Lib.hid (fun w hr => lgreet_go psk sec r k p d (now + 1) asked made last b c S w hp hs hr)
 unfold LinkT.cells at hS HG ⊢
 simp only at hS HG ⊢
 have hw1 : wrap64 (now + 1) = now + 1 := by unfold wrap64; omega
 have hw2 : IntKind.i64.wrap (now + 1) = now + 1 := by rw [IntKind.wrap_i64]; omega
 go_enter Tryz.func16, Tryz.ntmps16
 obtain ⟨W, hW⟩ : ∃ v, w.alloc (.cells (u8s sec).toArray 23) = v := ⟨_, rfl⟩
 have rK : row W w.heap.size = (u8s sec).toArray := by rw [← hW]; simp [go_sem]
 have zW : W.heap.size = w.heap.size + 1 := by rw [← hW]; simp
 have bW : Below w.heap.size w W := by
  rw [← hW]
  (repeat (first | exact Below.refl _ _ | refine Below.al ?_ _ | refine Below.drew ?_ | refine Below.sr ?_ _ | refine Below.sc ?_ _))
 have rS := (row_below bW (by omega)).trans hS
 have hn0 := hn.1
 have hn1 := hn.2
 clear hn
 go_wp2_with fail
 obtain ⟨W1, hW1⟩ : ∃ v, W.setRow S (u8s psk ++ (Value.bool true :: Value.int .i64 r :: Value.int .i64 k :: Value.int .i64 p :: Value.int .i64 d :: Value.int .i64 (now + 1) :: Value.pointer none :: Value.pointer b :: Value.pointer c :: Value.pointer none :: Value.int .i64 asked :: Value.int .i64 made :: [Value.int .i64 last])).toArray = v := ⟨_, rfl⟩
 have r1 : row W1 S = (u8s psk ++ (Value.bool true :: Value.int .i64 r :: Value.int .i64 k :: Value.int .i64 p :: Value.int .i64 d :: Value.int .i64 (now + 1) :: Value.pointer none :: Value.pointer b :: Value.pointer c :: Value.pointer none :: Value.int .i64 asked :: Value.int .i64 made :: [Value.int .i64 last])).toArray := by rw [← hW1]; exact row_setRow_same (by rw [rS]; simp) (by rw [rS]; simp)
 have rK1 : row W1 w.heap.size = (u8s sec).toArray := by rw [← hW1, row_setRow_other _ _ _ (by omega)]; exact rK
 have z1 : W1.heap.size = W.heap.size := by rw [← hW1]; simp
 have b1 : BelowBut w.heap.size S w W1 := by rw [← hW1]; exact (BelowBut.of bW).trans (BelowBut.set _ _)
 (try rw [hW1])
 clear hW1 rS rK hW bW hS
 refine wp_region_beginR [(S, (u8s psk ++ (Value.bool true :: Value.int .i64 r :: Value.int .i64 k :: Value.int .i64 p :: Value.int .i64 d :: Value.int .i64 (now + 1) :: Value.pointer none :: Value.pointer b :: Value.pointer c :: Value.pointer none :: Value.int .i64 asked :: Value.int .i64 made :: [Value.int .i64 last])).toArray)] rfl (by simp only [Rws]; (repeat (first | exact trivial | refine ⟨(by first | assumption | (simp [go_sem, *]; done)), (by first | omega | (simp; done) | (simp; omega)), ?_⟩))) (fun hS => ?_)
 refine qp 0 hS ?_
 refine qp 1 hS ?_
 refine qp 2 hS ?_
 refine qn 3 hS ?_
 refine qn 4 hS ?_
 refine qn 5 hS ?_
 refine qn 6 hS ?_
 refine qn 7 hS ?_
 refine qn 8 hS ?_
 refine qn 9 hS ?_
 refine qn 10 hS ?_
 refine qn 11 hS ?_
 refine qn 12 hS ?_
 refine qn 13 hS ?_
 refine qn 14 hS ?_
 refine qn 15 hS ?_
 refine qn 16 hS ?_
 refine qn 17 hS ?_
 refine qp 18 hS ?_
 refine wpAnyR_done (by kernel_rfl) (fun w2 b2 => ?_) _
 replace b2 : Below (W1).heap.size (W1) w2 := below_step (Below.drew (Below.refl _ _)) b2
 have z2 := b2.size
 have r2 := (row_below b2 (by omega)).trans r1
 have rK2 := (row_below b2 (by omega)).trans rK1
 have c2 := b1.trans ((BelowBut.of b2).mono (by omega))
 clear b2 r1 rK1 b1 hS
 go_wp2_with fail
 refine (HG.out _ r2).mono ?_
 rintro e w3 ⟨T, g, rfl, rg, gg, zg, rT, gT, zT, nTg, r3, b3⟩
 have z3 := b3.size
 have c3 := c2.trans (b3.mono (by omega))
 clear b3 r2 rK2 c2 HG
 go_wp2_with fail
 refine wp_region_beginR [(S, (u8s psk ++ (Value.bool true :: Value.int .i64 r :: Value.int .i64 k :: Value.int .i64 p :: Value.int .i64 d :: Value.int .i64 (now + 1) :: Value.pointer none :: Value.pointer b :: Value.pointer c :: Value.pointer (some ⟨T, 0, none⟩) :: Value.int .i64 (now + 1) :: Value.int .i64 made :: [Value.int .i64 last])).toArray)] rfl (by simp only [Rws]; (repeat (first | exact trivial | refine ⟨(by first | assumption | (simp [go_sem, *]; done)), (by first | omega | (simp; done) | (simp; omega)), ?_⟩))) (fun hS => ?_)
 refine qp 0 hS ?_
 refine qp 1 hS ?_
 refine qp 2 hS ?_
 refine qn 3 hS ?_
 refine qn 4 hS ?_
 refine qn 5 hS ?_
 refine qn 6 hS ?_
 refine qn 7 hS ?_
 refine qn 8 hS ?_
 refine qn 9 hS ?_
 refine qn 10 hS ?_
 refine qn 11 hS ?_
 refine qn 12 hS ?_
 refine qn 13 hS ?_
 refine qn 14 hS ?_
 refine qn 15 hS ?_
 refine qn 16 hS ?_
 refine qn 17 hS ?_
 refine qp 18 hS ?_
 refine wpAnyR_done (by kernel_rfl) (fun w4 b4 => ?_) _
 replace b4 : Below (w3).heap.size (w3) w4 := below_step (Below.drew (Below.refl _ _)) b4
 have z4 := b4.size
 have r4 := (row_below b4 (by omega)).trans r3
 have rg4 := (row_below b4 (by omega)).trans rg
 have rT4 := (row_below b4 (by omega)).trans rT
 have c4 := c3.trans ((BelowBut.of b4).mono (by omega))
 clear b4 r3 rg rT c3 hS
 go_wp2_with fail
 go_ret
 exact ⟨T, g, rfl, rg4, by omega, by omega, rT4, by omega, by omega, nTg, r4, c4⟩
end
section
open Go.ChangeShapes Go.WideShapes Go.ChangeAt Go.RowKit
attribute [local irreducible] greetL hailT
set_option maxRecDepth 20000 in
set_option maxHeartbeats 2000000 in
theorem now_any (psk : List UInt8) (g : Bool) (r k p d now asked made last : Int) (a b c talk : Option Addr) (S : Nat) (w : World) (hp : psk.length = 32) (hS : row w S = (⟨psk, g, r, k, p, d, now, a, b, c, talk, asked, made, last⟩ : LinkT).cells.toArray) :
  Calls Tryz.prog 22 #[.pointer (some ⟨S, 0, none⟩)] w fun e w' => e = .returned (.int .i64 now) ∧ w = w' := by
 unfold LinkT.cells at hS
 simp only at hS
 go_enter Tryz.func22, Tryz.ntmps22
 go_wp2_with fail
 go_ret
 exact ⟨rfl, rfl⟩
set_option maxRecDepth 20000 in
set_option maxHeartbeats 2000000 in
theorem awake15_any (w : World) : Calls Tryz.prog 11 #[] w fun e w' => e = .returned (.bool true) ∧ Below w.heap.size w w' := by
 have H1 := fun w => linkNew_ok (List.replicate 32 0) true 1 9 2 5 w (by simp) ⟨⟨by omega, by omega⟩, ⟨by omega, by omega⟩, ⟨by omega, by omega⟩, ⟨by omega, by omega⟩⟩
 have H2 := fun S w hr => ltick_go (List.replicate 32 0) (1 :: List.replicate 31 0) 1 9 2 5 0 0 0 0 none none S w (by simp) (by simp) ⟨by omega, by omega⟩ hr
 have H3 := fun psk r k p d asked made last b c talk S w h => now_any psk true r k p d (0 + 1) asked made last none b c talk S w h
 rw [show u8s (List.replicate 32 0) = zeros 32 (Value.int .u8 0) from u8s_zeros 32] at H1
 have lg := greetL_length (List.replicate 32 0) (1 :: List.replicate 31 0)
 obtain ⟨g, hg⟩ : ∃ g, greetL (List.replicate 32 0) (1 :: List.replicate 31 0) = g := ⟨_, rfl⟩
 rw [hg] at H2 lg
 have lgI : (g.length : Int) = 48 := by omega
 have K1 := Lib.hid H1
 have K2 := Lib.hid H2
 have K3 := Lib.hid H3
 have LG := Lib.hid lg
 clear H1 H2 H3 hg lg
 go_enter Tryz.func11, Tryz.ntmps11
 go_wp2_with fail
 refine (K1.out _).mono ?_
 rintro e w1 ⟨L, rfl, gL, zL, rL, b1⟩
 have z1 := b1.size
 go_wp2_with fail
 refine (K2.out L w1 rL).mono ?_
 rintro e w2 ⟨T, q, rfl, rq, gq, zq, rT, gT, zT, nT, rL2, b2⟩
 have z2 := b2.size
 go_wp2_with fail
 refine (K3.out _ _ _ _ _ _ _ _ _ _ _ _ _ (by simp) rL2).mono ?_
 rintro e w3 ⟨rfl, rfl⟩
 go_wp2_with fail
 go_ret
 exact ⟨by simp, b1.trans ((b2.mono (by omega)).below (by omega))⟩
section
variable (psk s : List UInt8) (r k p d : Int) (w : World)
end
section
variable (psk s : List UInt8) (r k p d : Int) (w : World)
end
end
section
open Go.RowKit
structure SessT where
 k1 : List UInt8
 k2 : List UInt8
 id : Int
 count : Nat
 top : Nat
 bits : Nat
 some : Bool
 born : Int
 sent : Int
 taken : Int
def SessT.cells (s : SessT) : List Value := u8s s.k1 ++ (u8s s.k2 ++ (.int .i64 s.id :: .int .u64 (s.count : Int) :: .int .u64 (s.top : Int) :: .int .u64 (s.bits : Int) :: .bool s.some :: .int .i64 s.born :: .int .i64 s.sent :: [.int .i64 s.taken]))
structure SessT.ok (s : SessT) : Prop where
 k1 : s.k1.length = 32
 k2 : s.k2.length = 32
theorem SessT.cells_length {s : SessT} (h : s.ok) : s.cells.length = 72 := by simp [SessT.cells, h.k1, h.k2]
theorem sealL_len (k nonce beside s : List UInt8) : (sealL k nonce beside s).length = s.length + 16 := by rw [sealL, List.length_append, maskL_length, tagL_length]
section
attribute [local irreducible] sealL nonceL tagL maskL
variable (psk : List UInt8) (g : Bool) (r k p d now asked made last : Int) (A : Nat) (b c talk : Option Addr) (S : Nat) (w : World) (hp : psk.length = 32)
include hp
set_option maxRecDepth 20000 in
theorem up_yes (hS : row w S = (⟨psk, g, r, k, p, d, now, some ⟨A, 0, none⟩, b, c, talk, asked, made, last⟩ : LinkT).cells.toArray) :
  Calls Tryz.prog 15 #[.pointer (some ⟨S, 0, none⟩)] w fun e w' => e = .returned (.bool true) ∧ w' = w := by
 unfold LinkT.cells at hS
 simp only at hS
 go_enter Tryz.func15, Tryz.ntmps15
 go_wp2_with fail
 go_ret
 exact ⟨rfl, rfl⟩
set_option maxRecDepth 20000 in
theorem up_no (hS : row w S = (⟨psk, g, r, k, p, d, now, none, b, c, talk, asked, made, last⟩ : LinkT).cells.toArray) :
  Calls Tryz.prog 15 #[.pointer (some ⟨S, 0, none⟩)] w fun e w' => e = .returned (.bool false) ∧ w' = w := by
 unfold LinkT.cells at hS
 simp only at hS
 go_enter Tryz.func15, Tryz.ntmps15
 go_wp2_with fail
 go_ret
 exact ⟨rfl, rfl⟩
def gramL (key : List UInt8) (n : Nat) (text : List UInt8) : List UInt8 := 3 :: (eightL n ++ sealL key (nonceL n) [] text)
set_option maxRecDepth 20000 in
set_option maxHeartbeats 4000000 in
theorem send_any (s : SessT) (hs : s.ok) (hc : s.count < 1099511627776) (text : List UInt8) (ht : text.length ≤ 1000) (hA : A ≠ S)
  (hS : row w S = (⟨psk, g, r, k, p, d, now, some ⟨A, 0, none⟩, b, c, talk, asked, made, last⟩ : LinkT).cells.toArray) (hT : row w A = s.cells.toArray) :
  Calls Tryz.prog 20 #[.pointer (some ⟨S, 0, none⟩), .string ⟨text.toArray⟩] w fun e w' => e = .returned (.tuple #[.string ⟨(gramL s.k1 s.count text).toArray⟩, .int .i64 0]) ∧ row w' A = ({ s with count := s.count + 1, sent := now } : SessT).cells.toArray ∧ BelowBut w.heap.size A w w' := by
 have zS : S < w.heap.size := lt_of_row (i := 0) (by rw [hS]; simp [LinkT.cells, hp])
 have zA : A < w.heap.size := lt_of_row (i := 0) (by rw [hT]; simp [SessT.cells, hs.k1, hs.k2])
 have HUP := Lib.hid (fun w (hS : row w S = (⟨psk, g, r, k, p, d, now, some ⟨A, 0, none⟩, b, c, talk, asked, made, last⟩ : LinkT).cells.toArray) => up_yes psk g r k p d now asked made last A b c talk S w hp hS)
 obtain ⟨hk1, hk2⟩ := hs
 obtain ⟨k1, k2, id, n, top, bits, sm, born, sent, taken⟩ := s
 dsimp only at hk1 hk2 hc ⊢
 have HNO := Lib.hid (fun w => nonce_any n w)
 have HSE := Lib.hid (fun w => seal_any k1 (nonceL n) [] text w hk1 (nonceL_length n) (by simp) (by omega))
 have hsl : (sealL k1 (nonceL n) [] text).length = text.length + 16 := by rw [sealL_len]
 have HPR := Lib.hid (fun w => tunPrint3 w n (by omega) (sealL k1 (nonceL n) [] text) (by omega) (by omega))
 obtain ⟨sl, hsl2⟩ : ∃ y, sealL k1 (nonceL n) [] text = y := ⟨_, rfl⟩
 have HGR := Lib.hid (show gramL k1 n text = 3 :: (eightL n ++ sl) by rw [gramL, hsl2])
 rw [hsl2] at HSE HPR
 have HS0 := Lib.hid hS
 have hcI : ¬ (1099511627776 : Int) ≤ (n : Int) := by omega
 have hcb := decide_eq_false hcI
 have hw1 : IntKind.u64.wrap ((n : Int) + 1) = (n : Int) + 1 := by rw [IntKind.wrap_u64]; omega
 have HHW := Lib.hid hw1
 clear hsl hsl2 hw1
 unfold SessT.cells at hT ⊢
 unfold LinkT.cells at hS
 dsimp only at hT hS ⊢
 go_enter Tryz.func20, Tryz.ntmps20
 go_wp2_with fail
 (with_reducible refine (HUP.out _ HS0.out).mono ?_)
 rintro e w1 ⟨rfl, rfl⟩
 go_wp2_with fail
 have rS0 := hS
 clear hS
 refine wp_region_beginR [(A, (u8s k1 ++ (u8s k2 ++ [Value.int .i64 id, .int .u64 (n : Int), .int .u64 (top : Int), .int .u64 (bits : Int), .bool sm, .int .i64 born, .int .i64 sent, .int .i64 taken])).toArray)] rfl (by simp only [Rws]; (repeat (first | exact trivial | refine ⟨(by first | assumption | (simp [go_sem, *]; done)), (by first | omega | (simp; done) | (simp; omega)), ?_⟩))) (fun hS => ?_)
 refine qp 0 hS ?_
 refine qp 1 hS ?_
 refine qp 2 hS ?_
 refine qp 3 hS ?_
 refine qp 4 hS ?_
 refine qp 5 hS ?_
 refine qp 6 hS ?_
 refine qp 7 hS ?_
 refine qp 8 hS ?_
 refine qc 9 (v := ?_) hS ?_ ?_
 rotate_left
 ·
  intro w' hS'
  simp only [Rws] at hS'
  go_simp
  with_reducible refine (HNO.out _).mono ?_
  rintro e w'' ⟨rfl, hb⟩
  exact ⟨_, rfl, by rfl, hb⟩
 refine qp 10 hS ?_
 refine qc 11 (v := ?_) hS ?_ ?_
 rotate_left
 ·
  intro w' hS'
  simp only [Rws] at hS'
  go_simp
  with_reducible refine (HSE.out _).mono ?_
  rintro e w'' ⟨rfl, hb⟩
  exact ⟨_, rfl, by rfl, hb⟩
 refine qp 12 hS ?_
 refine qp 13 hS ?_
 refine qp 14 hS ?_
 refine qp 15 hS ?_
 refine qp 16 hS ?_
 refine wpAnyR_done (by kernel_rfl) (fun w2 b2 => ?_) _
 replace b2 : Below (w1).heap.size (w1) w2 := below_step (Below.drew (Below.refl _ _)) b2
 have rT2 := (row_below b2 zA).trans hT
 have rS2 := (row_below b2 zS).trans rS0
 have z2 := b2.size
 clear hT hS rS0 hc hcI hcb
 go_wp2_with fail
 (with_reducible refine (HPR.out _).mono ?_)
 rintro e w3 ⟨rfl, b3⟩
 have z3 := b3.size
 have rT3 := (row_below b3 (by omega)).trans rT2
 have rS3 := (row_below b3 (by omega)).trans rS2
 obtain ⟨w4, hw4⟩ : ∃ y, w3.setRow A (u8s k1 ++ (u8s k2 ++ [Value.int .i64 id, .int .u64 ((n : Int) + 1), .int .u64 (top : Int), .int .u64 (bits : Int), .bool sm, .int .i64 born, .int .i64 sent, .int .i64 taken])).toArray = y := ⟨_, rfl⟩
 have rT4 : row w4 A = (u8s k1 ++ (u8s k2 ++ [Value.int .i64 id, .int .u64 ((n : Int) + 1), .int .u64 (top : Int), .int .u64 (bits : Int), .bool sm, .int .i64 born, .int .i64 sent, .int .i64 taken])).toArray := by rw [← hw4]; exact row_setRow_same (by rw [rT3]; simp; omega) (by rw [rT3]; simp)
 have rS4 := (row_setRow_other (w := w3) A S (u8s k1 ++ (u8s k2 ++ [Value.int .i64 id, .int .u64 ((n : Int) + 1), .int .u64 (top : Int), .int .u64 (bits : Int), .bool sm, .int .i64 born, .int .i64 sent, .int .i64 taken])).toArray (Ne.symm hA)).trans rS3
 rw [hw4] at rS4
 obtain ⟨w5, hw5⟩ : ∃ y, w4.setRow A (u8s k1 ++ (u8s k2 ++ [Value.int .i64 id, .int .u64 ((n : Int) + 1), .int .u64 (top : Int), .int .u64 (bits : Int), .bool sm, .int .i64 born, .int .i64 now, .int .i64 taken])).toArray = y := ⟨_, rfl⟩
 have rT5 : row w5 A = (u8s k1 ++ (u8s k2 ++ [Value.int .i64 id, .int .u64 ((n : Int) + 1), .int .u64 (top : Int), .int .u64 (bits : Int), .bool sm, .int .i64 born, .int .i64 now, .int .i64 taken])).toArray := by rw [← hw5]; exact row_setRow_same (by rw [rT4]; simp; omega) (by rw [rT4]; simp)
 have hbut : BelowBut w1.heap.size A w1 w5 := by
  rw [← hw5, ← hw4]
  exact ((BelowBut.of (b2.trans (b3.mono z2))).trans (BelowBut.set _ _)).trans (BelowBut.set _ _)
 have HW1 := HHW.out
 go_wp2_with fail
 (try rw [hw4])
 (try clear hw4)
 go_wp2_with fail
 (try rw [hw5])
 (try clear hw5)
 go_wp2_with fail
 go_ret2
 exact ⟨by rw [HGR.out]; rfl, by rw [show (((n + 1 : Nat)) : Int) = (n : Int) + 1 from rfl]; exact rT5, hbut⟩
end
end
section
open Go.RowKit
theorem tidle_any (w : World) : Calls Tryz.prog 73 #[] w fun e w' => e = .returned (.string ⟨#[0]⟩) ∧ w' = w := by
 go_enter Tryz.func73, Tryz.ntmps73
 go_wp2_with fail
 go_ret
 exact ⟨rfl, rfl⟩
section
attribute [local irreducible] sealL nonceL tagL maskL greetL hailT
variable (psk sec : List UInt8) (g : Bool) (r k p d now asked made last : Int) (A : Nat) (b c talk : Option Addr) (S : Nat) (w : World) (hp : psk.length = 32)
include hp
set_option maxRecDepth 20000 in
set_option maxHeartbeats 4000000 in
theorem idle_any (s : SessT) (hs : s.ok) (hc : s.count < 1099511627776) (hA : A ≠ S)
  (hS : row w S = (⟨psk, g, r, k, p, d, now, some ⟨A, 0, none⟩, b, c, talk, asked, made, last⟩ : LinkT).cells.toArray) (hT : row w A = s.cells.toArray) :
  Calls Tryz.prog 46 #[.pointer (some ⟨S, 0, none⟩)] w fun e w' => ∃ q, e = .returned (.slice (some ⟨q, 0, none⟩) 1 1) ∧ row w' q = #[.string ⟨(gramL s.k1 s.count [0]).toArray⟩] ∧ w.heap.size ≤ q ∧ q < w'.heap.size ∧ row w' A = ({ s with count := s.count + 1, sent := now } : SessT).cells.toArray ∧ BelowBut w.heap.size A w w' := by
 have HSD := Lib.hid (fun w hS hT => send_any psk g r k p d now asked made last A b c talk S w hp s hs hc [0] (by simp) hA hS hT)
 have HS0 := Lib.hid hS
 have HT0 := Lib.hid hT
 have zA : A < w.heap.size := lt_of_row (i := 0) (by rw [hT]; simp [SessT.cells, hs.k1, hs.k2])
 obtain ⟨gl, hgl⟩ : ∃ y, gramL s.k1 s.count [0] = y := ⟨_, rfl⟩
 rw [hgl] at HSD ⊢
 clear hgl hc hS hT
 go_enter Tryz.func46, Tryz.ntmps46
 go_wp2_with fail
 refine (tidle_any _).mono ?_
 rintro e w1 ⟨rfl, rfl⟩
 go_wp2_with fail
 refine (HSD.out _ HS0.out HT0.out).mono ?_
 rintro e w2 ⟨rfl, rT2, b2⟩
 have z2 := b2.size
 go_wp2_with fail
 go_ret
 refine ⟨w2.heap.size, rfl, row_alloc_at _ _ _ rfl, z2, by rw [alloc_sizeW]; omega, ?_, ?_⟩
 ·
  rw [row_alloc_past _ _ (by omega)]; exact rT2
 ·
  exact b2.trans ⟨rfl, rfl, rfl, by rw [alloc_sizeW]; omega, fun k hk _ => Below.heap_alloc _ _ _ (by omega)⟩
theorem greet_quiet (s : SessT) (hs : s.ok) (hk : now - s.born < k) (hb0 : 0 ≤ s.born ∧ s.born ≤ 100000000) (hn : 0 ≤ now ∧ now ≤ 100000000) (hk2 : k ≤ 70000)
  (hS : row w S = (⟨psk, g, r, k, p, d, now, some ⟨A, 0, none⟩, b, c, talk, asked, made, last⟩ : LinkT).cells.toArray) (hT : row w A = s.cells.toArray) :
  Calls Tryz.prog 45 #[.pointer (some ⟨S, 0, none⟩), .agg (u8s sec).toArray] w fun e w' => e = .returned (.slice none 0 0) ∧ Below w.heap.size w w' := by
 have zS : S < w.heap.size := lt_of_row (i := 0) (by rw [hS]; simp [LinkT.cells, hp])
 have zA : A < w.heap.size := lt_of_row (i := 0) (by rw [hT]; simp [SessT.cells, hs.k1, hs.k2])
 obtain ⟨hk1, hkk⟩ := hs
 obtain ⟨k1, k2, id, n, top, bits, sm, born, sent, taken⟩ := s
 dsimp only at hk1 hkk hk hb0
 unfold SessT.cells at hT
 unfold LinkT.cells at hS
 dsimp only at hT hS
 have hw1 : wrap64 (now - born) = now - born := by unfold wrap64; omega
 have hw2 : IntKind.i64.wrap (now - born) = now - born := by rw [IntKind.wrap_i64]; omega
 have hq : ¬ k ≤ now - born := by omega
 have hqb := decide_eq_false hq
 clear hb0 hn hk2 hk
 go_enter Tryz.func45, Tryz.ntmps45
 obtain ⟨W, hW⟩ : ∃ v, w.alloc (.cells (u8s sec).toArray 23) = v := ⟨_, rfl⟩
 have bW : Below w.heap.size w W := by rw [← hW]; exact Below.alloc (Below.refl _ _) (Nat.le_refl _) _
 have rS := (row_below bW zS).trans hS
 have rT := (row_below bW zA).trans hT
 clear hS hT
 cases hg : g with
 | true =>
  subst hg
  go_wp2_with fail
  (try rw [hW])
  (try clear hW)
  go_quiet (fail)
  go_wp2_with fail
  go_quiet (fail)
  go_wp2_with fail
  go_ret
  exact ⟨rfl, bW.trans ((below_drewN (below_drewN (Below.refl _ _) _) _).mono bW.size)⟩
 | false =>
  subst hg
  go_wp2_with fail
  (try rw [hW])
  (try clear hW)
  go_quiet (fail)
  go_wp2_with fail
  go_quiet (fail)
  go_wp2_with fail
  go_ret
  exact ⟨rfl, bW.trans ((below_drewN (below_drewN (Below.refl _ _) _) _).mono bW.size)⟩
end
end
end Go.Proofs.YtakkicppgkmokaaGreat
