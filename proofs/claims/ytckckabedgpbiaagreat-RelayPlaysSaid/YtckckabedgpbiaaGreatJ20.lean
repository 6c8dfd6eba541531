/- Texts of this proof, merged: NdR, NdV. -/
import Derived.Test.YtckckabedgpbiaaGreatJ19
set_option linter.unusedSimpArgs false
set_option linter.unusedVariables false
set_option maxRecDepth 4000
namespace Go.Proofs.YtckckabedgpbiaaGreat
section
open Go.RowKit
def zeroNd : List Value := ndV 0 ip0 ip0 ip0 mac0 false four0
set_option maxHeartbeats 1000000 in
theorem ndCatch_panic (X E : Nat) (n m : Int) (w : World) (B : Nat) (hX : (row w X).size = 60) (hE : row w E = #[.int .i64 m]) (hXE : X ≠ E) (hBX : B ≤ X) (hBE : B ≤ E) :
  CallsD Tryz.prog 95 #[.pointer (some ⟨X, 0, none⟩), .pointer (some ⟨E, 0, none⟩)] (.panicking (errP n)) w fun e u' w' =>
   e = .returned (.tuple #[]) ∧ u' = .panicking [{ v := .iface 33 (.int .i64 n), recovered := true }] ∧ row w' X = zeroNd.toArray ∧ row w' E = #[.int .i64 n] ∧ Below B w w' := by
 have hE2 := row_setRow_other (w := w) X E (Value.int .i64 0 :: (zeros 54 (.int .u8 0) ++ .bool false :: zeros 4 (.int .u8 0))).toArray (Ne.symm hXE)
 rw [hE] at hE2
 refine callsD_of_wpS Tryz.func95 rfl fun c₀ cs hu => ?_
 apply wpS_seq
 apply wpS_region
 simp [wpOpsS, go_sem, recoverD, hu, errP, Tryz.ntmps95, Exit.thenS]
 apply wpS_seq
 apply wpS_region
 simp [wpOpsS, go_sem, Exit.thenS]
 refine wpS_cond (t := true) (by simp [Act.eval, Array.replicate]) ?_
 simp only [if_true]
 refine wpS_of_wp ?_
 rw [show (Array.replicate 7 undef : Array Value) = #[undef, undef, undef, undef, undef, undef, undef] from rfl]
 simp only [List.setIfInBounds_toArray, List.set_cons_zero, List.set_cons_succ, List.append_toArray, List.cons_append, List.nil_append]
 refine wp_region_begin rfl (fun hS => ?_)
 refine rp 0 hS ?_
 refine rp 1 hS ?_
 refine rp 2 hS ?_
 refine wpAnyH_all (rs := [3]) (by kernel_rfl) (by simp) ?_
 intro i hi
 obtain rfl := List.mem_singleton.1 hi
 refine wpOp_step rfl (fun K hK => ?_)
 clear hi hS
 go_simp
 refine hK _ _ (wpAnyH_same ?_ (fun hS => ?_))
 ·
  unfold Held
  simp [go_sem]
 clear hK K
 refine wpAnyH_all (rs := [4]) (by kernel_rfl) (by simp) ?_
 intro i hi
 obtain rfl := List.mem_singleton.1 hi
 refine wpOp_step rfl (fun K hK => ?_)
 clear hi hS
 go_simp
 refine hK _ _ (wpAnyH_same ?_ (fun hS => ?_))
 ·
  unfold Held
  simp [go_sem]
 clear hK K
 refine wpAnyH_done (by kernel_rfl) ?_ _
 have r1 : row (w.setRow X zeroNd.toArray) X = zeroNd.toArray := row_setRow_same (by omega) (by simp [hX, zeroNd, ndV])
 have r2 := row_setRow_other (w := w.setRow X zeroNd.toArray) E X #[.int .i64 n] hXE
 have r3 := row_setRow_same (w := w.setRow X zeroNd.toArray) (g := E) (c := #[.int .i64 n]) (by rw [show row (w.setRow X zeroNd.toArray) E = _ from hE2]; simp) (by rw [show row (w.setRow X zeroNd.toArray) E = _ from hE2]; simp)
 refine ⟨rfl, _, rfl, .tuple #[], by simp [results, Tryz.results95], rfl, rfl, r2.trans r1, r3, ?_⟩
 (repeat (first | exact Below.refl _ _ | refine Below.al ?_ _ | refine Below.drew ?_ | refine Below.sr ?_ _ | refine Below.sc ?_ _))
set_option maxHeartbeats 1000000 in
theorem ndCatch_idle (X E : Nat) (w : World) :
  CallsD Tryz.prog 95 #[.pointer (some ⟨X, 0, none⟩), .pointer (some ⟨E, 0, none⟩)] .returning w fun e u' w' =>
   e = .returned (.tuple #[]) ∧ u' = .returning ∧ w' = w := by
 refine callsD_of_wpS Tryz.func95 rfl fun c₀ cs hu => ?_
 apply wpS_seq
 apply wpS_region
 simp [wpOpsS, go_sem, recoverD, hu, errP, Tryz.ntmps95, Exit.thenS]
 apply wpS_seq
 apply wpS_region
 simp [wpOpsS, go_sem, Exit.thenS]
 refine wpS_cond (t := false) (by simp [Act.eval, Array.replicate]) ?_
 simp only [Bool.false_eq_true, if_false]
 refine wpS_of_wp (wp_skip ?_)
 cases c₀
 simp_all [bodyPostS, results, Tryz.results95]
theorem nd_leaves_panic (tmps : Array Value) (X E : Nat) (n m : Int) (w w1 : World) (v : Value) (h2 : tmps.getD 2 undef = .pointer (some ⟨X, 0, none⟩)) (h3 : tmps.getD 3 undef = .pointer (some ⟨E, 0, none⟩))
  (hX : (row w1 X).size = 60) (hE : row w1 E = #[.int .i64 m]) (hXE : X ≠ E) (hBX : w.heap.size ≤ X) (hBE : w.heap.size ≤ E) (hb : Below w.heap.size w w1) (hv : v = .tuple #[.agg zeroNd.toArray, .int .i64 n]) :
  Leaves Tryz.prog Tryz.f70 tmps (fun e w' => e = .returned v ∧ Below w.heap.size w w') [{ target := .fn (.func 95) #[.pointer (some ⟨X, 0, none⟩), .pointer (some ⟨E, 0, none⟩)], args := #[] }] (.panicking (errP n)) w1 := by
 refine leaves_cons (f := 95) (args := #[.pointer (some ⟨X, 0, none⟩), .pointer (some ⟨E, 0, none⟩)]) (by simp) (by simp [go_sem]) ?_
 refine (ndCatch_panic X E n m w1 w.heap.size hX hE hXE hBX hBE).mono ?_
 rintro e u' w'' ⟨rfl, rfl, rX, rE, hb2⟩
 refine ⟨_, results_2 (r := .cell 2 164) (s := .cell 3 33) rfl (resOk_row h2 ?_) (resOk_one (d := .int .i64) (v := .int .i64 n) Tryz.underlying33 rfl h3 ?_), ?_, hb.trans hb2⟩
 ·
  rw [rX]
  rfl
 ·
  simp [go_sem, rE]
 ·
  rw [rX, hv]
theorem nd_leaves_ok (tmps : Array Value) (X E : Nat) (cs : List Value) (w w1 : World) (v : Value) (h2 : tmps.getD 2 undef = .pointer (some ⟨X, 0, none⟩)) (h3 : tmps.getD 3 undef = .pointer (some ⟨E, 0, none⟩))
  (hX : row w1 X = cs.toArray) (hc : cs.length = 60) (hE : row w1 E = #[.int .i64 0]) (hb : Below w.heap.size w w1) (hv : v = .tuple #[.agg cs.toArray, .int .i64 0]) :
  Leaves Tryz.prog Tryz.f70 tmps (fun e w' => e = .returned v ∧ Below w.heap.size w w') [{ target := .fn (.func 95) #[.pointer (some ⟨X, 0, none⟩), .pointer (some ⟨E, 0, none⟩)], args := #[] }] .returning w1 := by
 refine leaves_cons (f := 95) (args := #[.pointer (some ⟨X, 0, none⟩), .pointer (some ⟨E, 0, none⟩)]) (by simp) (by simp [go_sem]) ?_
 refine (ndCatch_idle X E w1).mono ?_
 rintro e u' w'' ⟨rfl, rfl, rfl⟩
 refine ⟨_, results_2 (r := .cell 2 164) (s := .cell 3 33) rfl (resOk_row h2 ?_) (resOk_one (d := .int .i64) (v := .int .i64 0) Tryz.underlying33 rfl h3 ?_), ?_, hb⟩
 ·
  rw [hX]
  simpa using hc
 ·
  simp [go_sem, hE]
 ·
  rw [hX, hv]
end
section
open Go.RowKit
structure NdSt (w w' : World) (xs : List Value) : Prop where
 rX : row w' w.heap.size = xs.toArray
 rE : row w' (w.heap.size + 1) = #[.int .i64 0]
 hc : xs.length = 60
 hb : Below w.heap.size w w'
 hs : w.heap.size + 1 < w'.heap.size
section
variable {w w1 w2 : World} {xs : List Value}
theorem NdSt.setX (h : NdSt w w1 xs) (xs' : List Value) (hc' : xs'.length = 60) : NdSt w (w1.setRow w.heap.size xs'.toArray) xs' :=
 ⟨row_setRow_same (by rw [h.rX]; simp [h.hc]) (by rw [h.rX]; simp [h.hc, hc']), by rw [row_setRow_other _ _ _ (by omega)]; exact h.rE, hc', Below.setRow h.hb (Nat.le_refl _) _, by simpa using h.hs⟩
theorem NdSt.setE (h : NdSt w w1 xs) : NdSt w (w1.setRow (w.heap.size + 1) #[.int .i64 0]) xs :=
 ⟨by rw [row_setRow_other _ _ _ (by omega)]; exact h.rX, row_setRow_same (by rw [h.rE]; simp) (by rw [h.rE]), h.hc, Below.setRow h.hb (by omega) _, by simpa using h.hs⟩
theorem NdSt.below (h : NdSt w w1 xs) (hb : Below w1.heap.size w1 w2) : NdSt w w2 xs := by
 have h1 := h.hs
 have h2 := hb.size
 exact ⟨by rw [row_below hb (by omega)]; exact h.rX, by rw [row_below hb (by omega)]; exact h.rE, h.hc, Below.trans h.hb (Below.mono hb (by omega)), by omega⟩
theorem NdSt.fail (h : NdSt w w1 xs) (tmps : Array Value) (v : Value) (n : Int) (h2 : tmps.getD 2 undef = .pointer (some ⟨w.heap.size, 0, none⟩)) (h3 : tmps.getD 3 undef = .pointer (some ⟨w.heap.size + 1, 0, none⟩)) (hv : v = .tuple #[.agg zeroNd.toArray, .int .i64 n]) :
  Leaves Tryz.prog Tryz.f70 tmps (fun e w' => e = .returned v ∧ Below w.heap.size w w') [{ target := .fn (.func 95) #[.pointer (some ⟨w.heap.size, 0, none⟩), .pointer (some ⟨w.heap.size + 1, 0, none⟩)], args := #[] }] (.panicking (errP n)) w1 :=
 nd_leaves_panic tmps _ _ n 0 w w1 v h2 h3 (by rw [h.rX]; simp [h.hc]) h.rE (by omega) (by omega) (by omega) h.hb hv
theorem NdSt.good (h : NdSt w w1 xs) (tmps : Array Value) (v : Value) (h2 : tmps.getD 2 undef = .pointer (some ⟨w.heap.size, 0, none⟩)) (h3 : tmps.getD 3 undef = .pointer (some ⟨w.heap.size + 1, 0, none⟩)) (hv : v = .tuple #[.agg xs.toArray, .int .i64 0]) :
  Leaves Tryz.prog Tryz.f70 tmps (fun e w' => e = .returned v ∧ Below w.heap.size w w') [{ target := .fn (.func 95) #[.pointer (some ⟨w.heap.size, 0, none⟩), .pointer (some ⟨w.heap.size + 1, 0, none⟩)], args := #[] }] .returning w1 :=
 nd_leaves_ok tmps _ _ xs w w1 v h2 h3 h.rX h.hc h.rE h.hb hv
theorem ndSt_start (w : World) : NdSt w ((w.alloc (.cells (Value.int .i64 0 :: (zeros 54 (Value.int .u8 0) ++ [Value.bool false, .int .u8 0, .int .u8 0, .int .u8 0, .int .u8 0])).toArray 164)).alloc (.cells #[.int .i64 0] 33)) (ndV 0 ip0 ip0 ip0 mac0 false four0) := by
 refine ⟨?_, ?_, by simp [ndV], by (repeat (first | exact Below.refl _ _ | refine Below.al ?_ _ | refine Below.drew ?_ | refine Below.sr ?_ _ | refine Below.sc ?_ _)), by simp⟩
 ·
  simp [go_sem]
  rfl
 ·
  simp [go_sem]
end
set_option maxRecDepth 20000 in
set_option maxHeartbeats 2000000 in
theorem ndParse_small_op1 (l m : List UInt8) (w : World) (hl : 64 ≤ l.length) (hl2 : l.length ≤ 10000) (hsz : numAt l 4 = 24) (hls : 40 + 24 ≤ l.length) (h0 : l[0] = 96) (h6 : l[6] = 58) (h7 : l[7] = 255)
  (hm : (l.drop 40).take 24 = m) (hml : m.length = 24) (m0 : m[0] = 135) (m1 : m[1] = 0)
  (hs : numAt m 2 = sumN 1 (vecAt l 8 16) (vecAt l 24 16) (vecAt m 8 16) (mac0) false (vecAt m 4 4)) :
  Calls Tryz.prog 70 #[.string ⟨l.toArray⟩] w fun e w' => e = .returned (.tuple #[.agg (ndV 1 (vecAt l 8 16) (vecAt l 24 16) (vecAt m 8 16) (mac0) false (vecAt m 4 4)).toArray, .int .i64 0]) ∧ Below w.heap.size w w' := by
 have hmf : ∀ (fn : Fn) (first cap : Array Value) (w : World), (Instr.makeFunc fn first cap).run Tryz.prog w = .ok (.func fn first cap) w := fun _ _ _ _ => rfl
 go_enter_defers Tryz.func70, Tryz.ntmps70
 go_wp2_with fail
 have st0 := ndSt_start w
 refine (headed_ok l w.heap.size 0 ip0 ip0 ip0 mac0 false four0 _ hl hl2 24 hsz (by omega) h0 h6 h7 hls st0.rX (by have := st0.hs; omega)).mono ?_
 rintro e w1 ⟨rfl, hb1⟩
 have st1 := (st0.setX (ndV 0 (vecAt l 8 16) (vecAt l 24 16) ip0 mac0 false four0) (by simp [ndV])).below (by simpa [ndV] using hb1)
 rw [hm]
 go_wp2_with fail
 refine (told_small_op1 m w.heap.size 0 (vecAt l 8 16) (vecAt l 24 16) ip0 mac0 four0 _ hml m0 m1  hs st1.rX (by have := st1.hs; omega)).mono ?_
 rintro e w2 ⟨rfl, hb2⟩
 have st2 := (st1.setX (ndV 1 (vecAt l 8 16) (vecAt l 24 16) (vecAt m 8 16) (mac0) false (vecAt m 4 4)) (by simp [ndV])).below (by simpa [ndV] using hb2)
 have rX := st2.rX
 have rE := st2.rE
 have hz := st2.hs
 unfold ndV at rX
 have rXE := (st2.setX _ st2.hc).rE
 unfold ndV at rXE
 go_wp2_with fail
 exact NdSt.good ((st2.setX _ st2.hc).setE) _ _ rfl rfl rfl
set_option maxRecDepth 20000 in
set_option maxHeartbeats 2000000 in
theorem ndParse_small_op2 (l m : List UInt8) (w : World) (hl : 64 ≤ l.length) (hl2 : l.length ≤ 10000) (hsz : numAt l 4 = 24) (hls : 40 + 24 ≤ l.length) (h0 : l[0] = 96) (h6 : l[6] = 58) (h7 : l[7] = 255)
  (hm : (l.drop 40).take 24 = m) (hml : m.length = 24) (m0 : m[0] = 136) (m1 : m[1] = 0)
  (hs : numAt m 2 = sumN 2 (vecAt l 8 16) (vecAt l 24 16) (vecAt m 8 16) (mac0) false (vecAt m 4 4)) :
  Calls Tryz.prog 70 #[.string ⟨l.toArray⟩] w fun e w' => e = .returned (.tuple #[.agg (ndV 2 (vecAt l 8 16) (vecAt l 24 16) (vecAt m 8 16) (mac0) false (vecAt m 4 4)).toArray, .int .i64 0]) ∧ Below w.heap.size w w' := by
 have hmf : ∀ (fn : Fn) (first cap : Array Value) (w : World), (Instr.makeFunc fn first cap).run Tryz.prog w = .ok (.func fn first cap) w := fun _ _ _ _ => rfl
 go_enter_defers Tryz.func70, Tryz.ntmps70
 go_wp2_with fail
 have st0 := ndSt_start w
 refine (headed_ok l w.heap.size 0 ip0 ip0 ip0 mac0 false four0 _ hl hl2 24 hsz (by omega) h0 h6 h7 hls st0.rX (by have := st0.hs; omega)).mono ?_
 rintro e w1 ⟨rfl, hb1⟩
 have st1 := (st0.setX (ndV 0 (vecAt l 8 16) (vecAt l 24 16) ip0 mac0 false four0) (by simp [ndV])).below (by simpa [ndV] using hb1)
 rw [hm]
 go_wp2_with fail
 refine (told_small_op2 m w.heap.size 0 (vecAt l 8 16) (vecAt l 24 16) ip0 mac0 four0 _ hml m0 m1  hs st1.rX (by have := st1.hs; omega)).mono ?_
 rintro e w2 ⟨rfl, hb2⟩
 have st2 := (st1.setX (ndV 2 (vecAt l 8 16) (vecAt l 24 16) (vecAt m 8 16) (mac0) false (vecAt m 4 4)) (by simp [ndV])).below (by simpa [ndV] using hb2)
 have rX := st2.rX
 have rE := st2.rE
 have hz := st2.hs
 unfold ndV at rX
 have rXE := (st2.setX _ st2.hc).rE
 unfold ndV at rXE
 go_wp2_with fail
 exact NdSt.good ((st2.setX _ st2.hc).setE) _ _ rfl rfl rfl
set_option maxRecDepth 20000 in
set_option maxHeartbeats 2000000 in
theorem ndParse_large_op1 (l m : List UInt8) (w : World) (hl : 64 ≤ l.length) (hl2 : l.length ≤ 10000) (hsz : numAt l 4 = 32) (hls : 40 + 32 ≤ l.length) (h0 : l[0] = 96) (h6 : l[6] = 58) (h7 : l[7] = 255)
  (hm : (l.drop 40).take 32 = m) (hml : m.length = 32) (m0 : m[0] = 135) (m1 : m[1] = 0) (m24 : m[24] = 1) (m25 : m[25] = 1)
  (hs : numAt m 2 = sumN 1 (vecAt l 8 16) (vecAt l 24 16) (vecAt m 8 16) (vecAt m 26 6) true (vecAt m 4 4)) :
  Calls Tryz.prog 70 #[.string ⟨l.toArray⟩] w fun e w' => e = .returned (.tuple #[.agg (ndV 1 (vecAt l 8 16) (vecAt l 24 16) (vecAt m 8 16) (vecAt m 26 6) true (vecAt m 4 4)).toArray, .int .i64 0]) ∧ Below w.heap.size w w' := by
 have hmf : ∀ (fn : Fn) (first cap : Array Value) (w : World), (Instr.makeFunc fn first cap).run Tryz.prog w = .ok (.func fn first cap) w := fun _ _ _ _ => rfl
 go_enter_defers Tryz.func70, Tryz.ntmps70
 go_wp2_with fail
 have st0 := ndSt_start w
 refine (headed_ok l w.heap.size 0 ip0 ip0 ip0 mac0 false four0 _ hl hl2 32 hsz (by omega) h0 h6 h7 hls st0.rX (by have := st0.hs; omega)).mono ?_
 rintro e w1 ⟨rfl, hb1⟩
 have st1 := (st0.setX (ndV 0 (vecAt l 8 16) (vecAt l 24 16) ip0 mac0 false four0) (by simp [ndV])).below (by simpa [ndV] using hb1)
 rw [hm]
 go_wp2_with fail
 refine (told_large_op1 m w.heap.size 0 (vecAt l 8 16) (vecAt l 24 16) ip0 mac0 four0 _ hml m0 m1 m24 m25 hs st1.rX (by have := st1.hs; omega)).mono ?_
 rintro e w2 ⟨rfl, hb2⟩
 have st2 := (st1.setX (ndV 1 (vecAt l 8 16) (vecAt l 24 16) (vecAt m 8 16) (vecAt m 26 6) true (vecAt m 4 4)) (by simp [ndV])).below (by simpa [ndV] using hb2)
 have rX := st2.rX
 have rE := st2.rE
 have hz := st2.hs
 unfold ndV at rX
 have rXE := (st2.setX _ st2.hc).rE
 unfold ndV at rXE
 go_wp2_with fail
 exact NdSt.good ((st2.setX _ st2.hc).setE) _ _ rfl rfl rfl
set_option maxRecDepth 20000 in
set_option maxHeartbeats 2000000 in
theorem ndParse_large_op2 (l m : List UInt8) (w : World) (hl : 64 ≤ l.length) (hl2 : l.length ≤ 10000) (hsz : numAt l 4 = 32) (hls : 40 + 32 ≤ l.length) (h0 : l[0] = 96) (h6 : l[6] = 58) (h7 : l[7] = 255)
  (hm : (l.drop 40).take 32 = m) (hml : m.length = 32) (m0 : m[0] = 136) (m1 : m[1] = 0) (m24 : m[24] = 2) (m25 : m[25] = 1)
  (hs : numAt m 2 = sumN 2 (vecAt l 8 16) (vecAt l 24 16) (vecAt m 8 16) (vecAt m 26 6) true (vecAt m 4 4)) :
  Calls Tryz.prog 70 #[.string ⟨l.toArray⟩] w fun e w' => e = .returned (.tuple #[.agg (ndV 2 (vecAt l 8 16) (vecAt l 24 16) (vecAt m 8 16) (vecAt m 26 6) true (vecAt m 4 4)).toArray, .int .i64 0]) ∧ Below w.heap.size w w' := by
 have hmf : ∀ (fn : Fn) (first cap : Array Value) (w : World), (Instr.makeFunc fn first cap).run Tryz.prog w = .ok (.func fn first cap) w := fun _ _ _ _ => rfl
 go_enter_defers Tryz.func70, Tryz.ntmps70
 go_wp2_with fail
 have st0 := ndSt_start w
 refine (headed_ok l w.heap.size 0 ip0 ip0 ip0 mac0 false four0 _ hl hl2 32 hsz (by omega) h0 h6 h7 hls st0.rX (by have := st0.hs; omega)).mono ?_
 rintro e w1 ⟨rfl, hb1⟩
 have st1 := (st0.setX (ndV 0 (vecAt l 8 16) (vecAt l 24 16) ip0 mac0 false four0) (by simp [ndV])).below (by simpa [ndV] using hb1)
 rw [hm]
 go_wp2_with fail
 refine (told_large_op2 m w.heap.size 0 (vecAt l 8 16) (vecAt l 24 16) ip0 mac0 four0 _ hml m0 m1 m24 m25 hs st1.rX (by have := st1.hs; omega)).mono ?_
 rintro e w2 ⟨rfl, hb2⟩
 have st2 := (st1.setX (ndV 2 (vecAt l 8 16) (vecAt l 24 16) (vecAt m 8 16) (vecAt m 26 6) true (vecAt m 4 4)) (by simp [ndV])).below (by simpa [ndV] using hb2)
 have rX := st2.rX
 have rE := st2.rE
 have hz := st2.hs
 unfold ndV at rX
 have rXE := (st2.setX _ st2.hc).rE
 unfold ndV at rXE
 go_wp2_with fail
 exact NdSt.good ((st2.setX _ st2.hc).setE) _ _ rfl rfl rfl
end
end Go.Proofs.YtckckabedgpbiaaGreat
