/- The walk of the law ArpFrames. -/
import Derived.Test.YthnjkpecnaglhaaArpF
import Derived.Test.YthnjkpecnaglhaaFrame
set_option linter.unusedSimpArgs false
set_option linter.unusedVariables false
namespace Go.Proofs.Ythnjkpecnaglhaa
open Go.ChangeShapes Go.WideShapes Go.ChangeAt Go.RowKit
theorem parse_printed (op : Nat) (mac tgt : Vector UInt8 6) (ip want : Vector UInt8 4) (w : World) (hop : op = 1 ∨ op = 2) :
    Calls Try.prog 18 #[.string ⟨(arpS op mac tgt ip want).toArray⟩] w fun e w' => e = .returned (.tuple #[.agg (arpV op mac tgt ip want).toArray, .int .i64 0]) ∧ Below w.heap.size w w' := by
  have := parse_print op mac tgt ip want [] w hop (by simp)
  rwa [List.append_nil] at this
theorem ethPrint_arp (dst src : Vector UInt8 6) (op : Nat) (mac tgt : Vector UInt8 6) (ip want : Vector UInt8 4) (vlan : Int) (w : World) (hv : vlan = -1 ∨ vlan = 7) :
    Calls Try.prog 24 #[.agg (u8v dst ++ (u8v src ++ [Value.int .i64 2054, .string ⟨(arpS op mac tgt ip want).toArray⟩, .int .i64 vlan, .int .i64 0])).toArray] w fun e w' => e = .returned (.tuple #[.string ⟨(ethS dst src 2054 (arpS op mac tgt ip want) vlan 0).toArray⟩, .int .i64 0]) ∧ Below w.heap.size w w' := by
  refine ethPrint_any dst src 2054 _ vlan 0 w ?_
  rw [arpS_length]
  rcases hv with rfl | rfl <;> rfl
set_option maxRecDepth 20000 in
set_option maxHeartbeats 1000000 in
theorem arpFrames_any (mac other : Vector UInt8 6) (ip want : Vector UInt8 4) (w : World) :
    Calls Try.prog 6 #[.agg (u8v mac).toArray, .agg (u8v other).toArray, .agg (u8v ip).toArray, .agg (u8v want).toArray] w fun e W' => e = .returned (.bool true) ∧ Below w.heap.size w W' := by
  obtain ⟨zz, hzz⟩ : ∃ z : Vector UInt8 6, z = Vector.replicate 6 0 := ⟨_, rfl⟩
  have Hq := question_any mac ip want
  rw [← hzz] at Hq
  obtain ⟨b1, hB1⟩ : ∃ l, l = arpS 1 mac zz ip want := ⟨_, rfl⟩
  obtain ⟨b2, hB2⟩ : ∃ l, l = arpS 2 other mac want ip := ⟨_, rfl⟩
  have Hp1 := fun w => parse_printed 1 mac zz ip want w (Or.inl rfl)
  have Hp2 := fun w => parse_printed 2 other mac want ip w (Or.inr rfl)
  have He1 := fun w => ethPrint_arp allOnes mac 1 mac zz ip want (-1) w (Or.inl rfl)
  have He2 := fun w => ethPrint_arp mac other 2 other mac want ip 7 w (Or.inr rfl)
  have Ha := answer_any 1 mac zz other ip want
  rw [← hB1] at Hq Hp1 He1
  rw [← hB2] at Hp2 Ha He2
  have HQ := Lib.hid Hq
  have HP1 := Lib.hid Hp1
  have HP2 := Lib.hid Hp2
  have HA := Lib.hid Ha
  have HE1 := Lib.hid He1
  have HE2 := Lib.hid He2
  clear Hq Hp1 Hp2 Ha hB1 hB2 He1 He2 hzz
  go_enter Try.func6, Try.ntmps6
  go_wp2_with fail
  refine (awake09_any _).mono ?_
  rintro e w1 ⟨rfl, hb1⟩
  have z1 := (hb1).size
  try simp at z1
  have ra : row w1 (w.heap.size) = (u8v mac).toArray := by rw [row_below hb1 (by first | (simp; done) | (simp; omega) | omega)]; simp [go_sem]; (try rfl)
  have rb : row w1 (w.heap.size + 1) = (u8v other).toArray := by rw [row_below hb1 (by first | (simp; done) | (simp; omega) | omega)]; simp [go_sem]; (try rfl)
  have rc : row w1 (w.heap.size + 1 + 1) = (u8v ip).toArray := by rw [row_below hb1 (by first | (simp; done) | (simp; omega) | omega)]; simp [go_sem]; (try rfl)
  have rd : row w1 (w.heap.size + 1 + 1 + 1) = (u8v want).toArray := by rw [row_below hb1 (by first | (simp; done) | (simp; omega) | omega)]; simp [go_sem]; (try rfl)
  replace hb1 := below_of hb1 (show Below (w).heap.size w _ from by (repeat (first | exact Below.refl _ _ | refine Below.alloc ?_ (by first | (simp; done) | (simp; omega) | omega) _ | refine Below.drew ?_ | refine Below.setRow ?_ (by first | (simp; done) | (simp; omega) | omega) _ | refine Below.setCell ?_ (by first | (simp; done) | (simp; omega) | omega) _))) (by first | (simp; done) | (simp; omega) | omega)
  go_wp2_with fail
  refine (HQ.out _).mono ?_
  rintro e w2 ⟨rfl, hb2⟩
  have z2 := (hb2).size
  try simp at z2
  replace ra := (row_below hb2 (by omega)).trans ra
  replace rb := (row_below hb2 (by omega)).trans rb
  replace rc := (row_below hb2 (by omega)).trans rc
  replace rd := (row_below hb2 (by omega)).trans rd
  have q1 : w.heap.size < w2.heap.size := by omega
  have q2 : w.heap.size + 1 < w2.heap.size := by omega
  have q3 : w.heap.size + 1 + 1 < w2.heap.size := by omega
  have q4 : w.heap.size + 1 + 1 + 1 < w2.heap.size := by omega
  unfold frameV
  go_wp2_with fail
  refine (HP1.out _).mono ?_
  rintro e w3 ⟨rfl, hb3⟩
  have z3 := (hb3).size
  try simp at z3
  have re : row w3 (w2.heap.size) = (u8v allOnes ++ (u8v mac ++ [Value.int .i64 2054, .string ⟨b1.toArray⟩])).toArray := by rw [row_below hb3 (by first | (simp; done) | (simp; omega) | omega)]; simp [go_sem]; (try rfl)
  replace ra := Eq.trans (row_below hb3 (b := w.heap.size) (by first | (simp; done) | (simp; omega) | omega)) (Eq.trans (by simp [go_sem, (show w.heap.size < (w2).heap.size by omega)]) ra)
  replace rb := Eq.trans (row_below hb3 (b := w.heap.size + 1) (by first | (simp; done) | (simp; omega) | omega)) (Eq.trans (by simp [go_sem, (show w.heap.size + 1 < (w2).heap.size by omega)]) rb)
  replace rc := Eq.trans (row_below hb3 (b := w.heap.size + 1 + 1) (by first | (simp; done) | (simp; omega) | omega)) (Eq.trans (by simp [go_sem, (show w.heap.size + 1 + 1 < (w2).heap.size by omega)]) rc)
  replace rd := Eq.trans (row_below hb3 (b := w.heap.size + 1 + 1 + 1) (by first | (simp; done) | (simp; omega) | omega)) (Eq.trans (by simp [go_sem, (show w.heap.size + 1 + 1 + 1 < (w2).heap.size by omega)]) rd)
  have q5 : w.heap.size < w3.heap.size := by omega
  have q6 : w.heap.size + 1 < w3.heap.size := by omega
  have q7 : w.heap.size + 1 + 1 < w3.heap.size := by omega
  have q8 : w.heap.size + 1 + 1 + 1 < w3.heap.size := by omega
  have q9 : w2.heap.size < w3.heap.size := by omega
  unfold arpV
  go_wp2_with fail
  refine (HA.out _).mono ?_
  rintro e w4 ⟨rfl, hb4⟩
  have z4 := (hb4).size
  try simp at z4
  have rf : row w4 (w3.heap.size) = (Value.int .i64 1 :: (u8v mac ++ (u8v zz ++ (u8v ip ++ u8v want)))).toArray := by rw [row_below hb4 (by first | (simp; done) | (simp; omega) | omega)]; simp [go_sem]; (try rfl)
  replace ra := Eq.trans (row_below hb4 (b := w.heap.size) (by first | (simp; done) | (simp; omega) | omega)) (Eq.trans (by simp [go_sem, (show w.heap.size < (w3).heap.size by omega)]) ra)
  replace rb := Eq.trans (row_below hb4 (b := w.heap.size + 1) (by first | (simp; done) | (simp; omega) | omega)) (Eq.trans (by simp [go_sem, (show w.heap.size + 1 < (w3).heap.size by omega)]) rb)
  replace rc := Eq.trans (row_below hb4 (b := w.heap.size + 1 + 1) (by first | (simp; done) | (simp; omega) | omega)) (Eq.trans (by simp [go_sem, (show w.heap.size + 1 + 1 < (w3).heap.size by omega)]) rc)
  replace rd := Eq.trans (row_below hb4 (b := w.heap.size + 1 + 1 + 1) (by first | (simp; done) | (simp; omega) | omega)) (Eq.trans (by simp [go_sem, (show w.heap.size + 1 + 1 + 1 < (w3).heap.size by omega)]) rd)
  replace re := Eq.trans (row_below hb4 (b := w2.heap.size) (by first | (simp; done) | (simp; omega) | omega)) (Eq.trans (by simp [go_sem, (show w2.heap.size < (w3).heap.size by omega)]) re)
  have p4ra : w.heap.size < w4.heap.size := by omega
  have p4rb : w.heap.size + 1 < w4.heap.size := by omega
  have p4rc : w.heap.size + 1 + 1 < w4.heap.size := by omega
  have p4rd : w.heap.size + 1 + 1 + 1 < w4.heap.size := by omega
  have p4re : w2.heap.size < w4.heap.size := by omega
  have p4rf : w3.heap.size < w4.heap.size := by omega
  unfold frameV
  go_wp2_with fail
  refine (HP2.out _).mono ?_
  rintro e w5 ⟨rfl, hb5⟩
  have z5 := (hb5).size
  try simp at z5
  have rg : row w5 (w4.heap.size) = (u8v mac ++ (u8v other ++ [Value.int .i64 2054, .string ⟨b2.toArray⟩])).toArray := by rw [row_below hb5 (by first | (simp; done) | (simp; omega) | omega)]; simp [go_sem]; (try rfl)
  replace ra := Eq.trans (row_below hb5 (b := w.heap.size) (by first | (simp; done) | (simp; omega) | omega)) (Eq.trans (by simp [go_sem, (show w.heap.size < (w4).heap.size by omega)]) ra)
  replace rb := Eq.trans (row_below hb5 (b := w.heap.size + 1) (by first | (simp; done) | (simp; omega) | omega)) (Eq.trans (by simp [go_sem, (show w.heap.size + 1 < (w4).heap.size by omega)]) rb)
  replace rc := Eq.trans (row_below hb5 (b := w.heap.size + 1 + 1) (by first | (simp; done) | (simp; omega) | omega)) (Eq.trans (by simp [go_sem, (show w.heap.size + 1 + 1 < (w4).heap.size by omega)]) rc)
  replace rd := Eq.trans (row_below hb5 (b := w.heap.size + 1 + 1 + 1) (by first | (simp; done) | (simp; omega) | omega)) (Eq.trans (by simp [go_sem, (show w.heap.size + 1 + 1 + 1 < (w4).heap.size by omega)]) rd)
  replace re := Eq.trans (row_below hb5 (b := w2.heap.size) (by first | (simp; done) | (simp; omega) | omega)) (Eq.trans (by simp [go_sem, (show w2.heap.size < (w4).heap.size by omega)]) re)
  replace rf := Eq.trans (row_below hb5 (b := w3.heap.size) (by first | (simp; done) | (simp; omega) | omega)) (Eq.trans (by simp [go_sem, (show w3.heap.size < (w4).heap.size by omega)]) rf)
  have p5ra : w.heap.size < w5.heap.size := by omega
  have p5rb : w.heap.size + 1 < w5.heap.size := by omega
  have p5rc : w.heap.size + 1 + 1 < w5.heap.size := by omega
  have p5rd : w.heap.size + 1 + 1 + 1 < w5.heap.size := by omega
  have p5re : w2.heap.size < w5.heap.size := by omega
  have p5rf : w3.heap.size < w5.heap.size := by omega
  have p5rg : w4.heap.size < w5.heap.size := by omega
  unfold arpV
  go_wp2_with fail
  refine (HE1.out _).mono ?_
  rintro e w6 ⟨rfl, hb6⟩
  have z6 := (hb6).size
  try simp at z6
  have rh : row w6 (w5.heap.size) = (Value.int .i64 2 :: (u8v other ++ (u8v mac ++ (u8v want ++ u8v ip)))).toArray := by rw [row_below hb6 (by first | (simp; done) | (simp; omega) | omega)]; simp [go_sem]; (try rfl)
  replace ra := Eq.trans (row_below hb6 (b := w.heap.size) (by first | (simp; done) | (simp; omega) | omega)) (Eq.trans (by simp [go_sem, (show w.heap.size < (w5).heap.size by omega)]) ra)
  replace rb := Eq.trans (row_below hb6 (b := w.heap.size + 1) (by first | (simp; done) | (simp; omega) | omega)) (Eq.trans (by simp [go_sem, (show w.heap.size + 1 < (w5).heap.size by omega)]) rb)
  replace rc := Eq.trans (row_below hb6 (b := w.heap.size + 1 + 1) (by first | (simp; done) | (simp; omega) | omega)) (Eq.trans (by simp [go_sem, (show w.heap.size + 1 + 1 < (w5).heap.size by omega)]) rc)
  replace rd := Eq.trans (row_below hb6 (b := w.heap.size + 1 + 1 + 1) (by first | (simp; done) | (simp; omega) | omega)) (Eq.trans (by simp [go_sem, (show w.heap.size + 1 + 1 + 1 < (w5).heap.size by omega)]) rd)
  replace re := Eq.trans (row_below hb6 (b := w2.heap.size) (by first | (simp; done) | (simp; omega) | omega)) (Eq.trans (by simp [go_sem, (show w2.heap.size < (w5).heap.size by omega)]) re)
  replace rf := Eq.trans (row_below hb6 (b := w3.heap.size) (by first | (simp; done) | (simp; omega) | omega)) (Eq.trans (by simp [go_sem, (show w3.heap.size < (w5).heap.size by omega)]) rf)
  replace rg := Eq.trans (row_below hb6 (b := w4.heap.size) (by first | (simp; done) | (simp; omega) | omega)) (Eq.trans (by simp [go_sem, (show w4.heap.size < (w5).heap.size by omega)]) rg)
  have p6ra : w.heap.size < w6.heap.size := by omega
  have p6rb : w.heap.size + 1 < w6.heap.size := by omega
  have p6rc : w.heap.size + 1 + 1 < w6.heap.size := by omega
  have p6rd : w.heap.size + 1 + 1 + 1 < w6.heap.size := by omega
  have p6re : w2.heap.size < w6.heap.size := by omega
  have p6rf : w3.heap.size < w6.heap.size := by omega
  have p6rg : w4.heap.size < w6.heap.size := by omega
  have p6rh : w5.heap.size < w6.heap.size := by omega
  go_wp2_with fail
  refine (HE2.out _).mono ?_
  rintro e w7 ⟨rfl, hb7⟩
  have z7 := (hb7).size
  try simp at z7
  replace ra := (row_below hb7 (by omega)).trans ra
  replace rb := (row_below hb7 (by omega)).trans rb
  replace rc := (row_below hb7 (by omega)).trans rc
  replace rd := (row_below hb7 (by omega)).trans rd
  replace re := (row_below hb7 (by omega)).trans re
  replace rf := (row_below hb7 (by omega)).trans rf
  replace rg := (row_below hb7 (by omega)).trans rg
  replace rh := (row_below hb7 (by omega)).trans rh
  go_wp2_with fail
  go_ret
  refine ⟨by simp, ?_⟩
  refine Below.trans ?_ (Below.mono hb7 (by first | (simp; done) | (simp; omega) | omega))
  refine Below.trans ?_ (Below.mono hb6 (by first | (simp; done) | (simp; omega) | omega))
  (repeat (first | refine Below.alloc ?_ (by first | (simp; done) | (simp; omega) | omega) _ | refine Below.drew ?_ | refine Below.setRow ?_ (by first | (simp; done) | (simp; omega) | omega) _ | refine Below.setCell ?_ (by first | (simp; done) | (simp; omega) | omega) _))
  refine Below.trans ?_ (Below.mono hb5 (by first | (simp; done) | (simp; omega) | omega))
  (repeat (first | refine Below.alloc ?_ (by first | (simp; done) | (simp; omega) | omega) _ | refine Below.drew ?_ | refine Below.setRow ?_ (by first | (simp; done) | (simp; omega) | omega) _ | refine Below.setCell ?_ (by first | (simp; done) | (simp; omega) | omega) _))
  refine Below.trans ?_ (Below.mono hb4 (by first | (simp; done) | (simp; omega) | omega))
  (repeat (first | refine Below.alloc ?_ (by first | (simp; done) | (simp; omega) | omega) _ | refine Below.drew ?_ | refine Below.setRow ?_ (by first | (simp; done) | (simp; omega) | omega) _ | refine Below.setCell ?_ (by first | (simp; done) | (simp; omega) | omega) _))
  refine Below.trans ?_ (Below.mono hb3 (by first | (simp; done) | (simp; omega) | omega))
  (repeat (first | refine Below.alloc ?_ (by first | (simp; done) | (simp; omega) | omega) _ | refine Below.drew ?_ | refine Below.setRow ?_ (by first | (simp; done) | (simp; omega) | omega) _ | refine Below.setCell ?_ (by first | (simp; done) | (simp; omega) | omega) _))
  refine Below.trans ?_ (Below.mono hb2 (by first | (simp; done) | (simp; omega) | omega))
  exact hb1
theorem open_mac {W : World} {base : Nat} {v : Value} (h : Value.okWide Try.prog W .any base 23 v) : ∃ x : Vector UInt8 6, v = .agg (u8v x).toArray := by
  obtain ⟨vs, hv, hg⟩ := open_plain (ls := leaves 6 (.int .u8) ++ []) Try.underlying23 rfl (by kernel_rfl) (by kernel_rfl) h
  obtain ⟨x, r, e, h2⟩ := goods_u8 hg
  have e2 := goods_nil h2
  exact ⟨x, by rw [hv, e, e2, List.append_nil]⟩
theorem open_four {W : World} {base : Nat} {v : Value} (h : Value.okWide Try.prog W .any base 24 v) : ∃ x : Vector UInt8 4, v = .agg (u8v x).toArray := by
  obtain ⟨vs, hv, hg⟩ := open_plain (ls := leaves 4 (.int .u8) ++ []) Try.underlying24 rfl (by kernel_rfl) (by kernel_rfl) h
  obtain ⟨x, r, e, h2⟩ := goods_u8 hg
  have e2 := goods_nil h2
  exact ⟨x, by rw [hv, e, e2, List.append_nil]⟩
theorem arpFrames_walk (W : World) (base : Nat) (args : Array Value) (hlen : args.size = Try.f6.params.size) (hval : ∀ (j : Nat) t v, Try.f6.params[j]? = some t → args[j]? = some v → Value.okWide Try.prog W .any base t v) :
    Calls Try.prog 6 args W fun e W' => e = .returned (.bool true) ∧ Below W.heap.size W W' := by
  obtain ⟨l⟩ := args
  match l, hlen with
  | [v0, v1, v2, v3], _ =>
  have k0 := hval 0 23 v0 rfl rfl
  have k1 := hval 1 23 v1 rfl rfl
  have k2 := hval 2 24 v2 rfl rfl
  have k3 := hval 3 24 v3 rfl rfl
  obtain ⟨mac, rfl⟩ := open_mac k0
  obtain ⟨other, rfl⟩ := open_mac k1
  obtain ⟨ip, rfl⟩ := open_four k2
  obtain ⟨want, rfl⟩ := open_four k3
  exact arpFrames_any mac other ip want W
end Go.Proofs.Ythnjkpecnaglhaa
