/- Contracts of package nd: parsing of what is right, and of what is too short. -/
import Derived.Test.YtckckabedgpbiaaNdRJ
set_option linter.unusedSimpArgs false
set_option linter.unusedVariables false
set_option maxRecDepth 4000
namespace Go.Proofs.Ytckckabedgpbiaa
open Go.RowKit
structure NdSt (w w' : World) (xs : List Value) : Prop where
 rX : row w' w.heap.size = xs.toArray
 rE : row w' (w.heap.size + 1) = #[.int .i64 0]
 hc : xs.length = 60
 hb : Below w.heap.size w w'
 hs : w.heap.size + 1 < w'.heap.size
section
variable {w w1 w2 : World} {xs : List Value}
theorem NdSt.setX (h : NdSt w w1 xs) (xs' : List Value) (hc' : xs'.length = 60) : NdSt w (w1.setRow w.heap.size xs'.toArray) xs' :=
 ⟨row_setRow_same (by rw [h.rX]; simp [h.hc]) (by rw [h.rX]; simp [h.hc, hc']), by rw [row_setRow_other _ _ _ (by omega)]; exact h.rE, hc', Below.setRow h.hb (Nat.le_refl _) _, by simpa using h.hs⟩
theorem NdSt.setE (h : NdSt w w1 xs) : NdSt w (w1.setRow (w.heap.size + 1) #[.int .i64 0]) xs :=
 ⟨by rw [row_setRow_other _ _ _ (by omega)]; exact h.rX, row_setRow_same (by rw [h.rE]; simp) (by rw [h.rE]), h.hc, Below.setRow h.hb (by omega) _, by simpa using h.hs⟩
theorem NdSt.below (h : NdSt w w1 xs) (hb : Below w1.heap.size w1 w2) : NdSt w w2 xs := by
 have h1 := h.hs
 have h2 := hb.size
 exact ⟨by rw [row_below hb (by omega)]; exact h.rX, by rw [row_below hb (by omega)]; exact h.rE, h.hc, Below.trans h.hb (Below.mono hb (by omega)), by omega⟩
theorem NdSt.fail (h : NdSt w w1 xs) (tmps : Array Value) (v : Value) (n : Int) (h2 : tmps.getD 2 undef = .pointer (some ⟨w.heap.size, 0, none⟩)) (h3 : tmps.getD 3 undef = .pointer (some ⟨w.heap.size + 1, 0, none⟩)) (hv : v = .tuple #[.agg zeroNd.toArray, .int .i64 n]) :
  Leaves Try.prog Try.f46 tmps (fun e w' => e = .returned v ∧ Below w.heap.size w w') [{ target := .fn (.func 78) #[.pointer (some ⟨w.heap.size, 0, none⟩), .pointer (some ⟨w.heap.size + 1, 0, none⟩)], args := #[] }] (.panicking (errP n)) w1 :=
 nd_leaves_panic tmps _ _ n 0 w w1 v h2 h3 (by rw [h.rX]; simp [h.hc]) h.rE (by omega) (by omega) (by omega) h.hb hv
theorem NdSt.good (h : NdSt w w1 xs) (tmps : Array Value) (v : Value) (h2 : tmps.getD 2 undef = .pointer (some ⟨w.heap.size, 0, none⟩)) (h3 : tmps.getD 3 undef = .pointer (some ⟨w.heap.size + 1, 0, none⟩)) (hv : v = .tuple #[.agg xs.toArray, .int .i64 0]) :
  Leaves Try.prog Try.f46 tmps (fun e w' => e = .returned v ∧ Below w.heap.size w w') [{ target := .fn (.func 78) #[.pointer (some ⟨w.heap.size, 0, none⟩), .pointer (some ⟨w.heap.size + 1, 0, none⟩)], args := #[] }] .returning w1 :=
 nd_leaves_ok tmps _ _ xs w w1 v h2 h3 h.rX h.hc h.rE h.hb hv
theorem ndSt_start (w : World) : NdSt w ((w.alloc (.cells (Value.int .i64 0 :: (zeros 54 (Value.int .u8 0) ++ [Value.bool false, .int .u8 0, .int .u8 0, .int .u8 0, .int .u8 0])).toArray 120)).alloc (.cells #[.int .i64 0] 26)) (ndV 0 ip0 ip0 ip0 mac0 false four0) := by
 refine ⟨?_, ?_, by simp [ndV], by (repeat (first | exact Below.refl _ _ | refine Below.al ?_ _ | refine Below.drew ?_ | refine Below.sr ?_ _ | refine Below.sc ?_ _)), by simp⟩
 ·
  simp [go_sem]
  rfl
 ·
  simp [go_sem]
end
set_option maxRecDepth 20000 in
set_option maxHeartbeats 2000000 in
theorem ndParse_small_op1 (l m : List UInt8) (w : World) (hl : 64 ≤ l.length) (hl2 : l.length ≤ 10000) (hsz : numAt l 4 = 24) (hls : 40 + 24 ≤ l.length) (h0 : l[0] = 96) (h6 : l[6] = 58) (h7 : l[7] = 255)
  (hm : (l.drop 40).take 24 = m) (hml : m.length = 24) (m0 : m[0] = 135) (m1 : m[1] = 0)
  (hs : numAt m 2 = sumN 1 (vecAt l 8 16) (vecAt l 24 16) (vecAt m 8 16) (mac0) false (vecAt m 4 4)) :
  Calls Try.prog 46 #[.string ⟨l.toArray⟩] w fun e w' => e = .returned (.tuple #[.agg (ndV 1 (vecAt l 8 16) (vecAt l 24 16) (vecAt m 8 16) (mac0) false (vecAt m 4 4)).toArray, .int .i64 0]) ∧ Below w.heap.size w w' := by
 have hmf : ∀ (fn : Fn) (first cap : Array Value) (w : World), (Instr.makeFunc fn first cap).run Try.prog w = .ok (.func fn first cap) w := fun _ _ _ _ => rfl
 go_enter_defers Try.func46, Try.ntmps46
 go_wp2_with fail
 have st0 := ndSt_start w
 refine (headed_ok l w.heap.size 0 ip0 ip0 ip0 mac0 false four0 _ hl hl2 24 hsz (by omega) h0 h6 h7 hls st0.rX (by have := st0.hs; omega)).mono ?_
 rintro e w1 ⟨rfl, hb1⟩
 have st1 := (st0.setX (ndV 0 (vecAt l 8 16) (vecAt l 24 16) ip0 mac0 false four0) (by simp [ndV])).below (by simpa [ndV] using hb1)
 rw [hm]
 go_wp2_with fail
 refine (told_small_op1 m w.heap.size 0 (vecAt l 8 16) (vecAt l 24 16) ip0 mac0 four0 _ hml m0 m1  hs st1.rX (by have := st1.hs; omega)).mono ?_
 rintro e w2 ⟨rfl, hb2⟩
 have st2 := (st1.setX (ndV 1 (vecAt l 8 16) (vecAt l 24 16) (vecAt m 8 16) (mac0) false (vecAt m 4 4)) (by simp [ndV])).below (by simpa [ndV] using hb2)
 have rX := st2.rX
 have rE := st2.rE
 have hz := st2.hs
 unfold ndV at rX
 have rXE := (st2.setX _ st2.hc).rE
 unfold ndV at rXE
 go_wp2_with fail
 exact NdSt.good ((st2.setX _ st2.hc).setE) _ _ rfl rfl rfl
set_option maxRecDepth 20000 in
set_option maxHeartbeats 2000000 in
theorem ndParse_small_op2 (l m : List UInt8) (w : World) (hl : 64 ≤ l.length) (hl2 : l.length ≤ 10000) (hsz : numAt l 4 = 24) (hls : 40 + 24 ≤ l.length) (h0 : l[0] = 96) (h6 : l[6] = 58) (h7 : l[7] = 255)
  (hm : (l.drop 40).take 24 = m) (hml : m.length = 24) (m0 : m[0] = 136) (m1 : m[1] = 0)
  (hs : numAt m 2 = sumN 2 (vecAt l 8 16) (vecAt l 24 16) (vecAt m 8 16) (mac0) false (vecAt m 4 4)) :
  Calls Try.prog 46 #[.string ⟨l.toArray⟩] w fun e w' => e = .returned (.tuple #[.agg (ndV 2 (vecAt l 8 16) (vecAt l 24 16) (vecAt m 8 16) (mac0) false (vecAt m 4 4)).toArray, .int .i64 0]) ∧ Below w.heap.size w w' := by
 have hmf : ∀ (fn : Fn) (first cap : Array Value) (w : World), (Instr.makeFunc fn first cap).run Try.prog w = .ok (.func fn first cap) w := fun _ _ _ _ => rfl
 go_enter_defers Try.func46, Try.ntmps46
 go_wp2_with fail
 have st0 := ndSt_start w
 refine (headed_ok l w.heap.size 0 ip0 ip0 ip0 mac0 false four0 _ hl hl2 24 hsz (by omega) h0 h6 h7 hls st0.rX (by have := st0.hs; omega)).mono ?_
 rintro e w1 ⟨rfl, hb1⟩
 have st1 := (st0.setX (ndV 0 (vecAt l 8 16) (vecAt l 24 16) ip0 mac0 false four0) (by simp [ndV])).below (by simpa [ndV] using hb1)
 rw [hm]
 go_wp2_with fail
 refine (told_small_op2 m w.heap.size 0 (vecAt l 8 16) (vecAt l 24 16) ip0 mac0 four0 _ hml m0 m1  hs st1.rX (by have := st1.hs; omega)).mono ?_
 rintro e w2 ⟨rfl, hb2⟩
 have st2 := (st1.setX (ndV 2 (vecAt l 8 16) (vecAt l 24 16) (vecAt m 8 16) (mac0) false (vecAt m 4 4)) (by simp [ndV])).below (by simpa [ndV] using hb2)
 have rX := st2.rX
 have rE := st2.rE
 have hz := st2.hs
 unfold ndV at rX
 have rXE := (st2.setX _ st2.hc).rE
 unfold ndV at rXE
 go_wp2_with fail
 exact NdSt.good ((st2.setX _ st2.hc).setE) _ _ rfl rfl rfl
set_option maxRecDepth 20000 in
set_option maxHeartbeats 2000000 in
theorem ndParse_large_op1 (l m : List UInt8) (w : World) (hl : 64 ≤ l.length) (hl2 : l.length ≤ 10000) (hsz : numAt l 4 = 32) (hls : 40 + 32 ≤ l.length) (h0 : l[0] = 96) (h6 : l[6] = 58) (h7 : l[7] = 255)
  (hm : (l.drop 40).take 32 = m) (hml : m.length = 32) (m0 : m[0] = 135) (m1 : m[1] = 0) (m24 : m[24] = 1) (m25 : m[25] = 1)
  (hs : numAt m 2 = sumN 1 (vecAt l 8 16) (vecAt l 24 16) (vecAt m 8 16) (vecAt m 26 6) true (vecAt m 4 4)) :
  Calls Try.prog 46 #[.string ⟨l.toArray⟩] w fun e w' => e = .returned (.tuple #[.agg (ndV 1 (vecAt l 8 16) (vecAt l 24 16) (vecAt m 8 16) (vecAt m 26 6) true (vecAt m 4 4)).toArray, .int .i64 0]) ∧ Below w.heap.size w w' := by
 have hmf : ∀ (fn : Fn) (first cap : Array Value) (w : World), (Instr.makeFunc fn first cap).run Try.prog w = .ok (.func fn first cap) w := fun _ _ _ _ => rfl
 go_enter_defers Try.func46, Try.ntmps46
 go_wp2_with fail
 have st0 := ndSt_start w
 refine (headed_ok l w.heap.size 0 ip0 ip0 ip0 mac0 false four0 _ hl hl2 32 hsz (by omega) h0 h6 h7 hls st0.rX (by have := st0.hs; omega)).mono ?_
 rintro e w1 ⟨rfl, hb1⟩
 have st1 := (st0.setX (ndV 0 (vecAt l 8 16) (vecAt l 24 16) ip0 mac0 false four0) (by simp [ndV])).below (by simpa [ndV] using hb1)
 rw [hm]
 go_wp2_with fail
 refine (told_large_op1 m w.heap.size 0 (vecAt l 8 16) (vecAt l 24 16) ip0 mac0 four0 _ hml m0 m1 m24 m25 hs st1.rX (by have := st1.hs; omega)).mono ?_
 rintro e w2 ⟨rfl, hb2⟩
 have st2 := (st1.setX (ndV 1 (vecAt l 8 16) (vecAt l 24 16) (vecAt m 8 16) (vecAt m 26 6) true (vecAt m 4 4)) (by simp [ndV])).below (by simpa [ndV] using hb2)
 have rX := st2.rX
 have rE := st2.rE
 have hz := st2.hs
 unfold ndV at rX
 have rXE := (st2.setX _ st2.hc).rE
 unfold ndV at rXE
 go_wp2_with fail
 exact NdSt.good ((st2.setX _ st2.hc).setE) _ _ rfl rfl rfl
set_option maxRecDepth 20000 in
set_option maxHeartbeats 2000000 in
theorem ndParse_large_op2 (l m : List UInt8) (w : World) (hl : 64 ≤ l.length) (hl2 : l.length ≤ 10000) (hsz : numAt l 4 = 32) (hls : 40 + 32 ≤ l.length) (h0 : l[0] = 96) (h6 : l[6] = 58) (h7 : l[7] = 255)
  (hm : (l.drop 40).take 32 = m) (hml : m.length = 32) (m0 : m[0] = 136) (m1 : m[1] = 0) (m24 : m[24] = 2) (m25 : m[25] = 1)
  (hs : numAt m 2 = sumN 2 (vecAt l 8 16) (vecAt l 24 16) (vecAt m 8 16) (vecAt m 26 6) true (vecAt m 4 4)) :
  Calls Try.prog 46 #[.string ⟨l.toArray⟩] w fun e w' => e = .returned (.tuple #[.agg (ndV 2 (vecAt l 8 16) (vecAt l 24 16) (vecAt m 8 16) (vecAt m 26 6) true (vecAt m 4 4)).toArray, .int .i64 0]) ∧ Below w.heap.size w w' := by
 have hmf : ∀ (fn : Fn) (first cap : Array Value) (w : World), (Instr.makeFunc fn first cap).run Try.prog w = .ok (.func fn first cap) w := fun _ _ _ _ => rfl
 go_enter_defers Try.func46, Try.ntmps46
 go_wp2_with fail
 have st0 := ndSt_start w
 refine (headed_ok l w.heap.size 0 ip0 ip0 ip0 mac0 false four0 _ hl hl2 32 hsz (by omega) h0 h6 h7 hls st0.rX (by have := st0.hs; omega)).mono ?_
 rintro e w1 ⟨rfl, hb1⟩
 have st1 := (st0.setX (ndV 0 (vecAt l 8 16) (vecAt l 24 16) ip0 mac0 false four0) (by simp [ndV])).below (by simpa [ndV] using hb1)
 rw [hm]
 go_wp2_with fail
 refine (told_large_op2 m w.heap.size 0 (vecAt l 8 16) (vecAt l 24 16) ip0 mac0 four0 _ hml m0 m1 m24 m25 hs st1.rX (by have := st1.hs; omega)).mono ?_
 rintro e w2 ⟨rfl, hb2⟩
 have st2 := (st1.setX (ndV 2 (vecAt l 8 16) (vecAt l 24 16) (vecAt m 8 16) (vecAt m 26 6) true (vecAt m 4 4)) (by simp [ndV])).below (by simpa [ndV] using hb2)
 have rX := st2.rX
 have rE := st2.rE
 have hz := st2.hs
 unfold ndV at rX
 have rXE := (st2.setX _ st2.hc).rE
 unfold ndV at rXE
 go_wp2_with fail
 exact NdSt.good ((st2.setX _ st2.hc).setE) _ _ rfl rfl rfl
end Go.Proofs.Ytckckabedgpbiaa
