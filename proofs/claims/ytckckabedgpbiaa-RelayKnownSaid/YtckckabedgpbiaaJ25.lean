/- Texts of this proof, merged: EthP, EthM. -/
import Derived.Test.YtckckabedgpbiaaJ23
import Derived.Test.YtckckabedgpbiaaEthDJ
import Derived.Test.YtckckabedgpbiaaJ7
import Derived.Deep.OwnRows
set_option linter.unusedSimpArgs false
set_option linter.unusedVariables false
set_option maxRecDepth 4000
namespace Go.Proofs.Ytckckabedgpbiaa
section
open Go.RowKit
def ethOut : Except Int EthD → Value
 | .error n => .tuple #[.agg zeroEth.toArray, .int .i64 n]
 | .ok d => .tuple #[.agg (ethV d.dst d.src d.ty d.body d.vlan d.prio).toArray, .int .i64 0]
theorem eth_leaves_panic (tmps : Array Value) (X E : Nat) (n m : Int) (w w1 : World) (v : Value) (h2 : tmps.getD 2 undef = .pointer (some ⟨X, 0, none⟩)) (h3 : tmps.getD 3 undef = .pointer (some ⟨E, 0, none⟩))
  (hX : (row w1 X).size = 16) (hE : row w1 E = #[.int .i64 m]) (hXE : X ≠ E) (hBX : w.heap.size ≤ X) (hBE : w.heap.size ≤ E) (hb : Below w.heap.size w w1) (hv : v = .tuple #[.agg zeroEth.toArray, .int .i64 n]) :
  Leaves Try.prog Try.f41 tmps (fun e w' => e = .returned v ∧ Below w.heap.size w w') [{ target := .fn (.func 70) #[.pointer (some ⟨X, 0, none⟩), .pointer (some ⟨E, 0, none⟩)], args := #[] }] (.panicking (errP n)) w1 := by
 refine leaves_cons (f := 70) (args := #[.pointer (some ⟨X, 0, none⟩), .pointer (some ⟨E, 0, none⟩)]) (by simp) (by simp [go_sem]) ?_
 refine (ethCatch_panic X E n m w1 w.heap.size hX hE hXE hBX hBE).mono ?_
 rintro e u' w'' ⟨rfl, rfl, rX, rE, hb2⟩
 refine ⟨_, results_2 (r := .cell 2 78) (s := .cell 3 26) rfl (resOk_row h2 ?_) (resOk_one (d := .int .i64) (v := .int .i64 n) Try.underlying26 rfl h3 ?_), ?_, hb.trans hb2⟩
 ·
  rw [rX]
  rfl
 ·
  simp [go_sem, rE]
 ·
  rw [rX, hv]
theorem eth_leaves_ok (tmps : Array Value) (X E : Nat) (cs : List Value) (w w1 : World) (v : Value) (h2 : tmps.getD 2 undef = .pointer (some ⟨X, 0, none⟩)) (h3 : tmps.getD 3 undef = .pointer (some ⟨E, 0, none⟩))
  (hX : row w1 X = cs.toArray) (hc : cs.length = 16) (hE : row w1 E = #[.int .i64 0]) (hb : Below w.heap.size w w1) (hv : v = .tuple #[.agg cs.toArray, .int .i64 0]) :
  Leaves Try.prog Try.f41 tmps (fun e w' => e = .returned v ∧ Below w.heap.size w w') [{ target := .fn (.func 70) #[.pointer (some ⟨X, 0, none⟩), .pointer (some ⟨E, 0, none⟩)], args := #[] }] .returning w1 := by
 refine leaves_cons (f := 70) (args := #[.pointer (some ⟨X, 0, none⟩), .pointer (some ⟨E, 0, none⟩)]) (by simp) (by simp [go_sem]) ?_
 refine (ethCatch_idle X E w1).mono ?_
 rintro e u' w'' ⟨rfl, rfl, rfl⟩
 refine ⟨_, results_2 (r := .cell 2 78) (s := .cell 3 26) rfl (resOk_row h2 ?_) (resOk_one (d := .int .i64) (v := .int .i64 0) Try.underlying26 rfl h3 ?_), ?_, hb⟩
 ·
  rw [hX]
  simpa using hc
 ·
  simp [go_sem, hE]
 ·
  rw [hX, hv]
structure EthSt (w w' : World) (xs : List Value) (s : List UInt8) : Prop where
 rX : row w' w.heap.size = xs.toArray
 rE : row w' (w.heap.size + 1) = #[.int .i64 0]
 rR : row w' (w.heap.size + 1 + 1) = #[.string ⟨s.toArray⟩]
 hc : xs.length = 16
 hb : Below w.heap.size w w'
 hs : w.heap.size + 1 + 1 < w'.heap.size
section
variable {w w1 w2 : World} {xs : List Value} {s : List UInt8}
theorem EthSt.setX (h : EthSt w w1 xs s) (xs' : List Value) (hc' : xs'.length = 16) : EthSt w (w1.setRow w.heap.size xs'.toArray) xs' s :=
 ⟨row_setRow_same (by rw [h.rX]; simp [h.hc]) (by rw [h.rX]; simp [h.hc, hc']), by rw [row_setRow_other _ _ _ (by omega)]; exact h.rE, by rw [row_setRow_other _ _ _ (by omega)]; exact h.rR, hc', Below.setRow h.hb (Nat.le_refl _) _, by simpa using h.hs⟩
theorem EthSt.setR (h : EthSt w w1 xs s) (s' : List UInt8) : EthSt w (w1.setRow (w.heap.size + 1 + 1) #[.string ⟨s'.toArray⟩]) xs s' :=
 ⟨by rw [row_setRow_other _ _ _ (by omega)]; exact h.rX, by rw [row_setRow_other _ _ _ (by omega)]; exact h.rE, row_setRow_same (by rw [h.rR]; simp) (by rw [h.rR]; simp), h.hc, Below.setRow h.hb (by omega) _, by simpa using h.hs⟩
theorem EthSt.setE (h : EthSt w w1 xs s) : EthSt w (w1.setRow (w.heap.size + 1) #[.int .i64 0]) xs s :=
 ⟨by rw [row_setRow_other _ _ _ (by omega)]; exact h.rX, row_setRow_same (by rw [h.rE]; simp) (by rw [h.rE]), by rw [row_setRow_other _ _ _ (by omega)]; exact h.rR, h.hc, Below.setRow h.hb (by omega) _, by simpa using h.hs⟩
theorem EthSt.below (h : EthSt w w1 xs s) (hb : Below w1.heap.size w1 w2) : EthSt w w2 xs s := by
 have h1 := h.hs
 have h2 := hb.size
 exact ⟨by rw [row_below hb (by omega)]; exact h.rX, by rw [row_below hb (by omega)]; exact h.rE, by rw [row_below hb (by omega)]; exact h.rR, h.hc, Below.trans h.hb (Below.mono hb (by omega)), by omega⟩
theorem EthSt.fail (h : EthSt w w1 xs s) (tmps : Array Value) (v : Value) (n : Int) (h2 : tmps.getD 2 undef = .pointer (some ⟨w.heap.size, 0, none⟩)) (h3 : tmps.getD 3 undef = .pointer (some ⟨w.heap.size + 1, 0, none⟩)) (hv : v = .tuple #[.agg zeroEth.toArray, .int .i64 n]) :
  Leaves Try.prog Try.f41 tmps (fun e w' => e = .returned v ∧ Below w.heap.size w w') [{ target := .fn (.func 70) #[.pointer (some ⟨w.heap.size, 0, none⟩), .pointer (some ⟨w.heap.size + 1, 0, none⟩)], args := #[] }] (.panicking (errP n)) w1 :=
 eth_leaves_panic tmps _ _ n 0 w w1 v h2 h3 (by rw [h.rX]; simp [h.hc]) h.rE (by omega) (by omega) (by omega) h.hb hv
theorem EthSt.good (h : EthSt w w1 xs s) (tmps : Array Value) (v : Value) (h2 : tmps.getD 2 undef = .pointer (some ⟨w.heap.size, 0, none⟩)) (h3 : tmps.getD 3 undef = .pointer (some ⟨w.heap.size + 1, 0, none⟩)) (hv : v = .tuple #[.agg xs.toArray, .int .i64 0]) :
  Leaves Try.prog Try.f41 tmps (fun e w' => e = .returned v ∧ Below w.heap.size w w') [{ target := .fn (.func 70) #[.pointer (some ⟨w.heap.size, 0, none⟩), .pointer (some ⟨w.heap.size + 1, 0, none⟩)], args := #[] }] .returning w1 :=
 eth_leaves_ok tmps _ _ xs w w1 v h2 h3 h.rX h.hc h.rE h.hb hv
def ethXs (dst src : Vector UInt8 6) (ty : Int) (body : List UInt8) (v p : Int) : List Value := u8v dst ++ (u8v src ++ [Value.int .i64 ty, .string ⟨body.toArray⟩, .int .i64 v, .int .i64 p])
def mac0 : Vector UInt8 6 := Vector.replicate 6 0
theorem ethSt_start (w : World) (s : List UInt8) (X : TypeId) : EthSt w (((w.alloc (.cells (zeros 12 (Value.int .u8 0) ++ [Value.int .i64 0, .string ⟨#[]⟩, .int .i64 (-1), .int .i64 0]).toArray 78)).alloc (.cells #[.int .i64 0] 26)).alloc (.cells #[.string ⟨s.toArray⟩] X)) (ethXs mac0 mac0 0 [] (-1) 0) s := by
 refine ⟨?_, ?_, ?_, by simp [ethXs], by (repeat (first | exact Below.refl _ _ | refine Below.al ?_ _ | refine Below.drew ?_ | refine Below.sr ?_ _ | refine Below.sc ?_ _)), by simp⟩
 ·
  simp [go_sem, ethXs, mac0, u8v_zero]
  rfl
 ·
  simp [go_sem]
 ·
  simp [go_sem]
end
theorem vecAt_drop0 (l : List UInt8) (k n : Nat) : vecAt (l.drop k) 0 n = vecAt l k n := by
 simp [vecAt]
theorem ethParse_e14 {l : List UInt8} (h : l.length < 14) : ethParse l = .error 2 := by
 unfold ethParse
 rw [if_pos h]
theorem ethParse_e16 {l : List UInt8} (h : ¬ l.length < 14) (ht : numAt l 12 = 33024) (h16 : l.length < 16) : ethParse l = .error 2 := by
 unfold ethParse
 rw [if_neg h, if_pos ht, if_pos h16]
theorem ethParse_est {l : List UInt8} (h : ¬ l.length < 14) (ht : numAt l 12 = 33024) (h16 : ¬ l.length < 16) (hs : numAt l 14 / 4096 % 2 = 1) : ethParse l = .error 3 := by
 unfold ethParse
 rw [if_neg h, if_pos ht, if_neg h16, if_pos hs]
theorem ethParse_e18 {l : List UInt8} (h : ¬ l.length < 14) (ht : numAt l 12 = 33024) (h16 : ¬ l.length < 16) (hs : ¬ numAt l 14 / 4096 % 2 = 1) (h18 : l.length < 18) : ethParse l = .error 2 := by
 unfold ethParse
 rw [if_neg h, if_pos ht, if_neg h16, if_neg hs, if_pos h18]
theorem ethParse_r18 {l : List UInt8} {n : Nat} {v p : Int} (h : ¬ l.length < 14) (ht : numAt l 12 = 33024) (h16 : ¬ l.length < 16) (hs : ¬ numAt l 14 / 4096 % 2 = 1) (h18 : ¬ l.length < 18) (hn : numAt l 16 = n) (hv : ((numAt l 14 % 4096 : Nat) : Int) = v) (hp : ((numAt l 14 / 8192 : Nat) : Int) = p) : ethParse l = ethRest l n 18 v p := by
 unfold ethParse
 rw [if_neg h, if_pos ht, if_neg h16, if_neg hs, if_neg h18, hn, hv, hp]
theorem ethParse_r14 {l : List UInt8} {n : Nat} (h : ¬ l.length < 14) (hn : numAt l 12 = n) (ht : ¬ n = 33024) : ethParse l = ethRest l n 14 (-1) 0 := by
 unfold ethParse
 rw [if_neg h, hn, if_neg ht]
set_option maxRecDepth 20000 in
set_option maxHeartbeats 4000000 in
theorem ethParse_any (l : List UInt8) (w : World) (hl : l.length ≤ 1000000) :
  Calls Try.prog 41 #[.string ⟨l.toArray⟩] w fun e w' => e = .returned (ethOut (ethParse l)) ∧ Below w.heap.size w w' := by
 have hmf : ∀ (fn : Fn) (first cap : Array Value) (w : World), (Instr.makeFunc fn first cap).run Try.prog w = .ok (.func fn first cap) w := fun _ _ _ _ => rfl
 go_enter_defers Try.func41, Try.ntmps41
 go_wp2_with fail
 have st0 := ethSt_start w l 158
 by_cases h6 : l.length < 6
 ·
  refine (rmac_short _ l _ st0.rR st0.hs h6).mono ?_
  rintro e w1 ⟨rfl, hb1⟩
  exact (st0.below hb1).fail _ _ 2 rfl rfl (by rw [ethParse_e14 (by omega)]; rfl)
 refine (rmac_ok _ l _ st0.rR st0.hs (by omega) hl).mono ?_
 rintro e w1 ⟨rfl, hb1⟩
 have st1 := (st0.setR (l.drop 6)).below (by simpa using hb1)
 go_wp2_with fail
 have hd6 : (l.drop 6).length = l.length - 6 := by simp
 by_cases h12 : l.length < 12
 ·
  refine (rmac_short _ (l.drop 6) _ st1.rR st1.hs (by omega)).mono ?_
  rintro e w2 ⟨rfl, hb2⟩
  exact (st1.below hb2).fail _ _ 2 rfl rfl (by rw [ethParse_e14 (by omega)]; rfl)
 refine (rmac_ok _ (l.drop 6) _ st1.rR st1.hs (by omega) (by omega)).mono ?_
 rintro e w2 ⟨rfl, hb2⟩
 rw [vecAt_drop0]
 have st2 := (st1.setR ((l.drop 6).drop 6)).below (by simpa using hb2)
 rw [show (l.drop 6).drop 6 = l.drop 12 by simp] at st2
 have rX := st2.rX
 have rE := st2.rE
 have rR := st2.rR
 have hz := st2.hs
 (try unfold ethXs at rX)
 have st3 := st2.setX (ethXs (vecAt l 0 6) mac0 0 [] (-1) 0) (by simp [ethXs])
 have rX3 := st3.rX
 unfold ethXs at rX3
 have st4 := st2.setX (ethXs (vecAt l 0 6) (vecAt l 6 6) 0 [] (-1) 0) (by simp [ethXs])
 have hd12 : (l.drop 12).length = l.length - 12 := by simp
 go_wp2_with fail
 by_cases h14 : l.length < 14
 ·
  refine (rtwo_short _ (l.drop 12) _ st4.rR (by omega)).mono ?_
  rintro e w3 ⟨rfl, rfl⟩
  exact (st4).fail _ _ 2 rfl rfl (by rw [ethParse_e14 h14]; rfl)
 refine (rtwo_ok _ (l.drop 12) _ st4.rR (by omega) (by omega)).mono ?_
 rintro e w3 ⟨rfl, hw3⟩
 have st5 : EthSt w w3 (ethXs (vecAt l 0 6) (vecAt l 6 6) 0 [] (-1) 0) (l.drop 14) := by
  rw [hw3, show (l.drop 12).drop 2 = l.drop 14 by simp]
  exact st4.setR _
 clear hw3 st4 st3 rX3 rX rR rE
 obtain ⟨n, hn⟩ : ∃ n, numAt l 12 = n := ⟨_, rfl⟩
 have hnlt := numAt_lt l 12
 rw [hn] at hnlt
 rw [show numN (List.take 2 (List.drop 12 l)) = n from hn]
 have hd14 : (l.drop 14).length = l.length - 14 := by simp
 by_cases htag : n = 33024
 ·
  subst htag
  have rX := st5.rX
  have rE := st5.rE
  have rR := st5.rR
  have hz := st5.hs
  (try unfold ethXs at rX)
  go_wp2_with fail
  by_cases h16 : l.length < 16
  ·
   refine (tag_short _ _ (l.drop 14) _ st5.rR (by omega)).mono ?_
   rintro e w4 ⟨rfl, rfl⟩
   exact (st5).fail _ _ 2 rfl rfl (by rw [ethParse_e16 h14 hn h16]; rfl)
  by_cases hs : numAt l 14 / 4096 % 2 = 1
  ·
   refine (tag_strange _ _ (l.drop 14) _ st5.rR (by omega) (by omega) hs).mono ?_
   rintro e w4 ⟨rfl, rfl⟩
   exact (st5.setR ((l.drop 14).drop 2)).fail _ _ 3 rfl rfl (by rw [ethParse_est h14 hn h16 hs]; rfl)
  refine (tag_ok _ _ (vecAt l 0 6) (vecAt l 6 6) (l.drop 14) _ st5.rX st5.rR (by omega) (by omega) (by omega) hs).mono ?_
  rintro e w4 ⟨rfl, hw4⟩
  obtain ⟨v, hv⟩ : ∃ v : Int, ((numAt l 14 % 4096 : Nat) : Int) = v := ⟨_, rfl⟩
  obtain ⟨p, hp⟩ : ∃ p : Int, ((numAt l 14 / 8192 : Nat) : Int) = p := ⟨_, rfl⟩
  have st6 : EthSt w w4 (ethXs (vecAt l 0 6) (vecAt l 6 6) 0 [] v p) (l.drop 16) := by
   rw [hw4, show (l.drop 14).drop 2 = l.drop 16 by simp, ← hv, ← hp]
   exact (st5.setR _).setX _ (by simp [ethXs])
  clear hw4 rX rR rE hz
  have rX := st6.rX
  have rE := st6.rE
  have rR := st6.rR
  have hz := st6.hs
  (try unfold ethXs at rX)
  have hd16 : (l.drop 16).length = l.length - 16 := by simp
  go_wp2_with fail
  by_cases h18 : l.length < 18
  ·
   refine (rtwo_short _ (l.drop 16) _ st6.rR (by omega)).mono ?_
   rintro e w5 ⟨rfl, rfl⟩
   exact (st6).fail _ _ 2 rfl rfl (by rw [ethParse_e18 h14 hn h16 hs h18]; rfl)
  refine (rtwo_ok _ (l.drop 16) _ st6.rR (by omega) (by omega)).mono ?_
  rintro e w5 ⟨rfl, hw5⟩
  have st7 : EthSt w w5 (ethXs (vecAt l 0 6) (vecAt l 6 6) 0 [] v p) (l.drop 18) := by
   rw [hw5, show (l.drop 16).drop 2 = l.drop 18 by simp]
   exact st6.setR _
  clear hw5 rX rR rE hz
  obtain ⟨n2, hn2⟩ : ∃ n, numAt l 16 = n := ⟨_, rfl⟩
  have hnlt2 := numAt_lt l 16
  rw [hn2] at hnlt2
  rw [show numN (List.take 2 (List.drop 16 l)) = n2 from hn2]
  have hpar := ethParse_r18 h14 hn h16 hs h18 hn2 hv hp
  have rX := st7.rX
  have rE := st7.rE
  have rR := st7.rR
  have hz := st7.hs
  (try unfold ethXs at rX)
  by_cases hL : l.length ≤ 1518
  ·
   have hL1 : (l.length : Int) ≤ 1518 := by omega
   have hL2 : ¬ 1500 + 18 < l.length := by omega
   go_wp2_with fail
   refine (must_ok _ _).mono ?_
   rintro e wa ⟨rfl, rfl⟩
   go_wp2_with fail
   clear hL1
   by_cases hn15 : n2 ≤ 1500
   ·
    by_cases hsh : l.length < 18 + n2
    ·
     refine (body_short _ _ (l.drop 18) n2 _ st7.rR hn15 (by simp; omega)).mono ?_
     rintro e wb ⟨rfl, rfl⟩
     exact (st7).fail _ _ 2 rfl rfl (by rw [hpar, ethRest_short hL2 hn15 hsh]; rfl)
    ·
     refine (body_len _ _ (vecAt l 0 6) (vecAt l 6 6) (l.drop 18) n2 v p _ st7.rX st7.rR (by omega) hn15 (by simp; omega) (by simp; omega)).mono ?_
     rintro e wb ⟨rfl, hwb⟩
     have st8 : EthSt w wb (ethXs (vecAt l 0 6) (vecAt l 6 6) 0 ((l.drop 18).take n2) v p) ((l.drop 18).drop n2) := by rw [hwb]; exact (st7.setR _).setX _ (by simp [ethXs])
     clear hwb rX rE rR hz
     have rX := st8.rX
     have rE := st8.rE
     have rR := st8.rR
     have hz := st8.hs
     (try unfold ethXs at rX)
     by_cases hvl : v ≤ 4094
     ·
      go_wp2_with fail
      refine (must_ok _ _).mono ?_
      rintro e wv ⟨rfl, rfl⟩
      have rXE := (st8.setX _ st8.hc).rE
      (try unfold ethXs at rXE)
      go_wp2_with fail
      refine EthSt.good ((st8.setX _ st8.hc).setE) _ _ rfl rfl ?_
      rw [hpar, ethRest_len hL2 hn15 hsh (by omega)]
      rfl
     ·
      have hvl2 : 4094 < v := by omega
      go_wp2_with fail
      rw [decide_eq_false (show ¬ v ≤ 4094 by omega)]
      refine (must_no _ _).mono ?_
      rintro e wv ⟨rfl, rfl⟩
      exact (st8).fail _ _ 12 rfl rfl (by rw [hpar, ethRest_lenV hL2 hn15 hsh (by omega)]; rfl)
   ·
    by_cases hbad : n2 < 1536 ∨ n2 = 33024
    ·
     refine (body_bad _ _ n2 _ (by omega) hbad).mono ?_
     rintro e wb ⟨rfl, rfl⟩
     exact (st7).fail _ _ 3 rfl rfl (by rw [hpar, ethRest_bad hL2 hn15 hbad]; rfl)
    ·
     refine (body_typed _ _ (vecAt l 0 6) (vecAt l 6 6) (l.drop 18) n2 v p _ st7.rX st7.rR (by omega) (by omega) (by omega)).mono ?_
     rintro e wb ⟨rfl, hwb⟩
     have st8 : EthSt w wb (ethXs (vecAt l 0 6) (vecAt l 6 6) n2 (l.drop 18) v p) (l.drop 18) := by rw [hwb]; exact st7.setX _ (by simp [ethXs])
     clear hwb rX rE rR hz
     have rX := st8.rX
     have rE := st8.rE
     have rR := st8.rR
     have hz := st8.hs
     (try unfold ethXs at rX)
     by_cases hvl : v ≤ 4094
     ·
      go_wp2_with fail
      refine (must_ok _ _).mono ?_
      rintro e wv ⟨rfl, rfl⟩
      have rXE := (st8.setX _ st8.hc).rE
      (try unfold ethXs at rXE)
      go_wp2_with fail
      refine EthSt.good ((st8.setX _ st8.hc).setE) _ _ rfl rfl ?_
      rw [hpar, ethRest_ty hL2 hn15 hbad (by omega)]
      rfl
     ·
      have hvl2 : 4094 < v := by omega
      go_wp2_with fail
      rw [decide_eq_false (show ¬ v ≤ 4094 by omega)]
      refine (must_no _ _).mono ?_
      rintro e wv ⟨rfl, rfl⟩
      exact (st8).fail _ _ 12 rfl rfl (by rw [hpar, ethRest_tyV hL2 hn15 hbad (by omega)]; rfl)
  ·
   have hL1 : ¬ (l.length : Int) ≤ 1518 := by omega
   have hL3 : 1518 < (l.length : Int) := by omega
   have hL2 : 1500 + 18 < l.length := by omega
   go_wp2_with fail
   rw [decide_eq_false (show ¬ (l.length : Int) ≤ 1518 by omega)]
   refine (must_no _ _).mono ?_
   rintro e wb ⟨rfl, rfl⟩
   exact (st7).fail _ _ 3 rfl rfl (by rw [hpar, ethRest_long hL2]; rfl)
 ·
  have htag1 : ((n : Int) == 33024) = false := by simp; omega
  have hpar := ethParse_r14 h14 hn htag
  have rX := st5.rX
  have rE := st5.rE
  have rR := st5.rR
  have hz := st5.hs
  (try unfold ethXs at rX)
  by_cases hL : l.length ≤ 1514
  ·
   have hL1 : (l.length : Int) ≤ 1514 := by omega
   have hL2 : ¬ 1500 + 14 < l.length := by omega
   go_wp2_with fail
   refine (must_ok _ _).mono ?_
   rintro e wa ⟨rfl, rfl⟩
   go_wp2_with fail
   clear hL1
   by_cases hn15 : n ≤ 1500
   ·
    by_cases hsh : l.length < 14 + n
    ·
     refine (body_short _ _ (l.drop 14) n _ st5.rR hn15 (by simp; omega)).mono ?_
     rintro e wb ⟨rfl, rfl⟩
     exact (st5).fail _ _ 2 rfl rfl (by rw [hpar, ethRest_short hL2 hn15 hsh]; rfl)
    ·
     refine (body_len _ _ (vecAt l 0 6) (vecAt l 6 6) (l.drop 14) n (-1) 0 _ st5.rX st5.rR (by omega) hn15 (by simp; omega) (by simp; omega)).mono ?_
     rintro e wb ⟨rfl, hwb⟩
     have st8 : EthSt w wb (ethXs (vecAt l 0 6) (vecAt l 6 6) 0 ((l.drop 14).take n) (-1) 0) ((l.drop 14).drop n) := by rw [hwb]; exact (st5.setR _).setX _ (by simp [ethXs])
     clear hwb rX rE rR hz
     have rX := st8.rX
     have rE := st8.rE
     have rR := st8.rR
     have hz := st8.hs
     (try unfold ethXs at rX)
     go_wp2_with fail
     refine (must_ok _ _).mono ?_
     rintro e wv ⟨rfl, rfl⟩
     have rXE := (st8.setX _ st8.hc).rE
     (try unfold ethXs at rXE)
     go_wp2_with fail
     refine EthSt.good ((st8.setX _ st8.hc).setE) _ _ rfl rfl ?_
     rw [hpar, ethRest_len hL2 hn15 hsh (by omega)]
     rfl
   ·
    by_cases hbad : n < 1536 ∨ n = 33024
    ·
     refine (body_bad _ _ n _ (by omega) hbad).mono ?_
     rintro e wb ⟨rfl, rfl⟩
     exact (st5).fail _ _ 3 rfl rfl (by rw [hpar, ethRest_bad hL2 hn15 hbad]; rfl)
    ·
     refine (body_typed _ _ (vecAt l 0 6) (vecAt l 6 6) (l.drop 14) n (-1) 0 _ st5.rX st5.rR (by omega) (by omega) (by omega)).mono ?_
     rintro e wb ⟨rfl, hwb⟩
     have st8 : EthSt w wb (ethXs (vecAt l 0 6) (vecAt l 6 6) n (l.drop 14) (-1) 0) (l.drop 14) := by rw [hwb]; exact st5.setX _ (by simp [ethXs])
     clear hwb rX rE rR hz
     have rX := st8.rX
     have rE := st8.rE
     have rR := st8.rR
     have hz := st8.hs
     (try unfold ethXs at rX)
     go_wp2_with fail
     refine (must_ok _ _).mono ?_
     rintro e wv ⟨rfl, rfl⟩
     have rXE := (st8.setX _ st8.hc).rE
     (try unfold ethXs at rXE)
     go_wp2_with fail
     refine EthSt.good ((st8.setX _ st8.hc).setE) _ _ rfl rfl ?_
     rw [hpar, ethRest_ty hL2 hn15 hbad (by omega)]
     rfl
  ·
   have hL1 : ¬ (l.length : Int) ≤ 1514 := by omega
   have hL3 : 1514 < (l.length : Int) := by omega
   have hL2 : 1500 + 14 < l.length := by omega
   go_wp2_with fail
   rw [decide_eq_false (show ¬ (l.length : Int) ≤ 1514 by omega)]
   refine (must_no _ _).mono ?_
   rintro e wb ⟨rfl, rfl⟩
   exact (st5).fail _ _ 3 rfl rfl (by rw [hpar, ethRest_long hL2]; rfl)
end
section
open Go.ChangeShapes Go.WideShapes Go.ChangeAt Go.RowKit
theorem ethParse_ok (l : List UInt8) (d : EthD) (w : World) (hl : l.length ≤ 1000000) (h : ethParse l = .ok d) :
  Calls Try.prog 41 #[.string ⟨l.toArray⟩] w fun e w' => e = .returned (.tuple #[.agg (ethV d.dst d.src d.ty d.body d.vlan d.prio).toArray, .int .i64 0]) ∧ Below w.heap.size w w' := by
 have := ethParse_any l w hl
 rwa [h] at this
@[simp, go_sem] theorem zeroEth_cells : zeros 12 (Value.int .u8 0) ++ Value.int .i64 0 :: Value.string ⟨#[]⟩ :: zeros 2 (Value.int .i64 0) = u8v mac0 ++ (u8v mac0 ++ [Value.int .i64 0, .string ⟨#[]⟩, .int .i64 0, .int .i64 0]) := rfl
theorem zeroEth_eq : zeroEth = ethV mac0 mac0 0 [] 0 0 := rfl
theorem ethParse_err (l : List UInt8) (n : Int) (w : World) (hl : l.length ≤ 1000000) (h : ethParse l = .error n) :
  Calls Try.prog 41 #[.string ⟨l.toArray⟩] w fun e w' => e = .returned (.tuple #[.agg (ethV mac0 mac0 0 [] 0 0).toArray, .int .i64 n]) ∧ Below w.heap.size w w' := by
 have := ethParse_any l w hl
 rw [h] at this
 rwa [← zeroEth_eq]
theorem ethS_small (dst src : Vector UInt8 6) (ty : Int) (body : List UInt8) (vlan prio : Int) (hr : rightB ty vlan prio body.length = true) :
  (ethS dst src ty body vlan prio).length ≤ 1518 ∧ 14 ≤ (ethS dst src ty body vlan prio).length := by
 have h := ethS_len dst src ty body vlan prio hr
 simp [rightB] at hr
 by_cases hv : 0 ≤ vlan
 ·
  rw [if_pos hv] at h
  omega
 ·
  rw [if_neg hv] at h
  omega
end
end Go.Proofs.Ytckckabedgpbiaa
