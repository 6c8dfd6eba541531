/- The walk of the law ArpCut. -/
import Derived.Test.YthnjkpecnaglhaaArpL
set_option linter.unusedSimpArgs false
set_option linter.unusedVariables false
namespace Go.Proofs.Ythnjkpecnaglhaa
open Go.ChangeShapes Go.WideShapes Go.ChangeAt Go.RowKit
set_option maxRecDepth 20000 in
set_option maxHeartbeats 2000000 in
theorem arpCut_good (n : Nat) (mac tgt : Vector UInt8 6) (ip want : Vector UInt8 4) (cut : Int) (more : List UInt8) (w : World) (hl : more.length ≤ 1000) (hn : n = 1 ∨ n = 2) (hc0 : 0 ≤ cut) (hc1 : cut ≤ 255) :
    Calls Try.prog 5 #[.agg (arpV n mac tgt ip want).toArray, .int .u8 cut, .string ⟨more.toArray⟩] w fun e W' => e = .returned (.bool true) ∧ Below w.heap.size w W' := by
  have HN := Lib.hid hn
  clear hn
  have ls := arpS_length n mac tgt ip want
  have hk0 : 0 ≤ cut % 28 := by omega
  have hk1 : cut % 28 ≤ 28 := by omega
  have LK := Lib.hid (show cut % 28 < 28 by omega)
  unfold arpV
  go_enter Try.func5, Try.ntmps5
  go_wp2_with fail
  refine (of09_any n mac tgt ip want _).mono ?_
  rintro e w1 ⟨rfl, hb1⟩
  have ra : row w1 w.heap.size = (.int .i64 n :: (u8v mac ++ (u8v tgt ++ (u8v ip ++ u8v want)))).toArray := by rw [row_below hb1 (by simp)]; simp [go_sem]
  have z1 := (hb1).size
  try simp at z1
  replace hb1 := below_of hb1 (show Below (w).heap.size w _ from by (repeat (first | exact Below.refl _ _ | refine Below.alloc ?_ (by first | (simp; done) | (simp; omega) | omega) _ | refine Below.drew ?_ | refine Below.setRow ?_ (by first | (simp; done) | (simp; omega) | omega) _ | refine Below.setCell ?_ (by first | (simp; done) | (simp; omega) | omega) _))) (by first | (simp; done) | (simp; omega) | omega)
  unfold arpV
  go_wp2_with fail
  refine (print_any n mac tgt ip want _ HN.out).mono ?_
  rintro e w2 ⟨rfl, hb2⟩
  replace ra := (row_below hb2 (by omega)).trans ra
  have z2 := (hb2).size
  try simp at z2
  go_wp2_with fail
  refine (awake09_any _).mono ?_
  rintro e w3 ⟨rfl, hb3⟩
  replace ra := (row_below hb3 (by omega)).trans ra
  have z3 := (hb3).size
  try simp at z3
  go_wp2_with fail
  refine (parse_short _ _ (by have := LK.out; simp; omega)).mono ?_
  rintro e w4 ⟨rfl, hb4⟩
  replace ra := (row_below hb4 (by omega)).trans ra
  have z4 := (hb4).size
  try simp at z4
  go_wp2_with fail
  refine (parse_print n mac tgt ip want more _ HN.out hl).mono ?_
  rintro e w5 ⟨rfl, hb5⟩
  have z5 := (hb5).size
  try simp at z5
  have q7 : w.heap.size < w4.heap.size := by omega
  replace ra : row w5 w.heap.size = (.int .i64 n :: (u8v mac ++ (u8v tgt ++ (u8v ip ++ u8v want)))).toArray := by rw [row_below hb5 (by simp; omega)]; simp [go_sem, ra, q7]
  have rx : row w5 w4.heap.size = (Value.int .i64 0 :: zeros 20 (Value.int .u8 0)).toArray := by rw [row_below hb5 (by simp)]; simp [go_sem]
  have q5 : w.heap.size < w5.heap.size := by omega
  have q6 : w4.heap.size < w5.heap.size := by omega
  unfold arpV
  go_wp2_with fail
  refine wp_region_beginS (S := Held (fun w' => row w' w.heap.size = (.int .i64 n :: (u8v mac ++ (u8v tgt ++ (u8v ip ++ u8v want)))).toArray ∧ row w' w4.heap.size = (Value.int .i64 0 :: zeros 20 (Value.int .u8 0)).toArray ∧ row w' w5.heap.size = (.int .i64 n :: (u8v mac ++ (u8v tgt ++ (u8v ip ++ u8v want)))).toArray)) rfl ?_ (fun hS => ?_)
  · unfold Held
    simp [go_sem, *]
  refine wpAnyH_take (i := 0) (v := ?_) (by simp only [List.getElem?_toArray, List.getElem?_cons_succ, List.getElem?_cons_zero]; rfl) (by kernel_rfl) (by kernel_rfl) (by kernel_rfl) (by exact fun _ _ _ h => h) (Or.inl ⟨by rfl, ?_⟩) hS ?_
  rotate_left
  · intro w' hS'
    unfold Held at hS'
    go_simp
    rfl
  (try simp only [Act.put, List.setIfInBounds_toArray, List.set_cons_zero, List.set_cons_succ])
  refine wpAnyH_take (i := 1) (v := ?_) (by simp only [List.getElem?_toArray, List.getElem?_cons_succ, List.getElem?_cons_zero]; rfl) (by kernel_rfl) (by kernel_rfl) (by kernel_rfl) (by exact fun _ _ _ h => h) (Or.inl ⟨by rfl, ?_⟩) hS ?_
  rotate_left
  · intro w' hS'
    unfold Held at hS'
    go_simp
    rfl
  (try simp only [Act.put, List.setIfInBounds_toArray, List.set_cons_zero, List.set_cons_succ])
  refine wpAnyH_take (i := 2) (v := ?_) (by simp only [List.getElem?_toArray, List.getElem?_cons_succ, List.getElem?_cons_zero]; rfl) (by kernel_rfl) (by kernel_rfl) (by kernel_rfl) (by exact fun _ _ _ h => h) (Or.inl ⟨by rfl, ?_⟩) hS ?_
  rotate_left
  · intro w' hS'
    unfold Held at hS'
    go_simp
    rfl
  (try simp only [Act.put, List.setIfInBounds_toArray, List.set_cons_zero, List.set_cons_succ])
  refine wpAnyH_take (i := 3) (v := ?_) (by simp only [List.getElem?_toArray, List.getElem?_cons_succ, List.getElem?_cons_zero]; rfl) (by kernel_rfl) (by kernel_rfl) (by kernel_rfl) (by exact fun _ _ _ h => h) (Or.inl ⟨by rfl, ?_⟩) hS ?_
  rotate_left
  · intro w' hS'
    unfold Held at hS'
    go_simp
    rfl
  (try simp only [Act.put, List.setIfInBounds_toArray, List.set_cons_zero, List.set_cons_succ])
  refine wpAnyH_take (i := 4) (v := ?_) (by simp only [List.getElem?_toArray, List.getElem?_cons_succ, List.getElem?_cons_zero]; rfl) (by kernel_rfl) (by kernel_rfl) (by kernel_rfl) (by exact fun _ _ _ h => h) (Or.inl ⟨by rfl, ?_⟩) hS ?_
  rotate_left
  · intro w' hS'
    unfold Held at hS'
    go_simp
    rfl
  (try simp only [Act.put, List.setIfInBounds_toArray, List.set_cons_zero, List.set_cons_succ])
  refine wpAnyH_take (i := 5) (v := ?_) (by simp only [List.getElem?_toArray, List.getElem?_cons_succ, List.getElem?_cons_zero]; rfl) (by kernel_rfl) (by kernel_rfl) (by kernel_rfl) (by exact fun _ _ _ h => h) (Or.inl ⟨by rfl, ?_⟩) hS ?_
  rotate_left
  · intro w' hS'
    unfold Held at hS'
    go_simp
    rfl
  (try simp only [Act.put, List.setIfInBounds_toArray, List.set_cons_zero, List.set_cons_succ])
  refine wpAnyH_take (i := 6) (v := ?_) (by simp only [List.getElem?_toArray, List.getElem?_cons_succ, List.getElem?_cons_zero]; rfl) (by kernel_rfl) (by kernel_rfl) (by kernel_rfl) (by exact fun _ _ _ h => h) (Or.inl ⟨by rfl, ?_⟩) hS ?_
  rotate_left
  · intro w' hS'
    unfold Held at hS'
    go_simp
    rfl
  (try simp only [Act.put, List.setIfInBounds_toArray, List.set_cons_zero, List.set_cons_succ])
  refine wpAnyH_take (i := 7) (v := ?_) (by simp only [List.getElem?_toArray, List.getElem?_cons_succ, List.getElem?_cons_zero]; rfl) (by kernel_rfl) (by kernel_rfl) (by kernel_rfl) (by exact fun _ _ _ h => h) (Or.inl ⟨by rfl, ?_⟩) hS ?_
  rotate_left
  · intro w' hS'
    unfold Held at hS'
    go_simp
    rfl
  (try simp only [Act.put, List.setIfInBounds_toArray, List.set_cons_zero, List.set_cons_succ])
  refine wpAnyH_take (i := 8) (v := ?_) (by simp only [List.getElem?_toArray, List.getElem?_cons_succ, List.getElem?_cons_zero]; rfl) (by kernel_rfl) (by kernel_rfl) (by kernel_rfl) (by exact fun _ _ _ h => h) (Or.inl ⟨by rfl, ?_⟩) hS ?_
  rotate_left
  · intro w' hS'
    unfold Held at hS'
    go_simp
    rfl
  (try simp only [Act.put, List.setIfInBounds_toArray, List.set_cons_zero, List.set_cons_succ])
  refine wpAnyH_take (i := 9) (v := ?_) (by simp only [List.getElem?_toArray, List.getElem?_cons_succ, List.getElem?_cons_zero]; rfl) (by kernel_rfl) (by kernel_rfl) (by kernel_rfl) (by exact fun _ _ _ h => h) (Or.inl ⟨by rfl, ?_⟩) hS ?_
  rotate_left
  · intro w' hS'
    unfold Held at hS'
    go_simp
    rfl
  (try simp only [Act.put, List.setIfInBounds_toArray, List.set_cons_zero, List.set_cons_succ])
  refine wpAnyH_take (i := 10) (v := ?_) (by simp only [List.getElem?_toArray, List.getElem?_cons_succ, List.getElem?_cons_zero]; rfl) (by kernel_rfl) (by kernel_rfl) (by kernel_rfl) (by exact fun _ _ _ h => h) (Or.inl ⟨by rfl, ?_⟩) hS ?_
  rotate_left
  · intro w' hS'
    unfold Held at hS'
    go_simp
    rfl
  (try simp only [Act.put, List.setIfInBounds_toArray, List.set_cons_zero, List.set_cons_succ])
  refine wpAnyH_take (i := 11) (v := ?_) (by simp only [List.getElem?_toArray, List.getElem?_cons_succ, List.getElem?_cons_zero]; rfl) (by kernel_rfl) (by kernel_rfl) (by kernel_rfl) (by exact fun _ _ _ h => h) (Or.inl ⟨by rfl, ?_⟩) hS ?_
  rotate_left
  · intro w' hS'
    unfold Held at hS'
    go_simp
    rfl
  (try simp only [Act.put, List.setIfInBounds_toArray, List.set_cons_zero, List.set_cons_succ])
  refine wpAnyH_take (i := 12) (v := ?_) (by simp only [List.getElem?_toArray, List.getElem?_cons_succ, List.getElem?_cons_zero]; rfl) (by kernel_rfl) (by kernel_rfl) (by kernel_rfl) (by exact fun _ _ _ h => h) (Or.inl ⟨by rfl, ?_⟩) hS ?_
  rotate_left
  · intro w' hS'
    unfold Held at hS'
    go_simp
    rfl
  (try simp only [Act.put, List.setIfInBounds_toArray, List.set_cons_zero, List.set_cons_succ])
  refine wpAnyH_take (i := 14) (v := ?_) (by simp only [List.getElem?_toArray, List.getElem?_cons_succ, List.getElem?_cons_zero]; rfl) (by kernel_rfl) (by kernel_rfl) (by kernel_rfl) (by exact fun _ _ _ h => h) (Or.inl ⟨by rfl, ?_⟩) hS ?_
  rotate_left
  · intro w' hS'
    unfold Held at hS'
    go_simp
    rfl
  (try simp only [Act.put, List.setIfInBounds_toArray, List.set_cons_zero, List.set_cons_succ])
  refine wpAnyH_all (rs := [13]) (by kernel_rfl) (by simp) ?_
  intro i hi
  obtain rfl := List.mem_singleton.1 hi
  refine wpOp_step rfl (fun K hK => ?_)
  clear hi hS
  go_simp
  refine (plain09_any n mac tgt ip want _).mono ?_
  rintro e w6 ⟨rfl, hb6⟩
  unfold arpV
  refine hK _ _ (wpAnyH_same ?_ (fun hS => ?_))
  · unfold Held
    refine ⟨?_, ?_, ?_⟩ <;> (rw [row_below hb6 (by first | (simp; done) | (simp; omega) | omega)]; simp [go_sem, *])
  clear hK K
  refine wpAnyH_take (i := 15) (v := ?_) (by simp only [List.getElem?_toArray, List.getElem?_cons_succ, List.getElem?_cons_zero]; rfl) (by kernel_rfl) (by kernel_rfl) (by kernel_rfl) (by exact fun _ _ _ h => h) (Or.inl ⟨by rfl, ?_⟩) hS ?_
  rotate_left
  · intro w' hS'
    unfold Held at hS'
    go_simp
    rfl
  (try simp only [Act.put, List.setIfInBounds_toArray, List.set_cons_zero, List.set_cons_succ])
  refine wpAnyH_take (i := 16) (v := ?_) (by simp only [List.getElem?_toArray, List.getElem?_cons_succ, List.getElem?_cons_zero]; rfl) (by kernel_rfl) (by kernel_rfl) (by kernel_rfl) (by exact fun _ _ _ h => h) (Or.inl ⟨by rfl, ?_⟩) hS ?_
  rotate_left
  · intro w' hS'
    unfold Held at hS'
    go_simp
    rfl
  (try simp only [Act.put, List.setIfInBounds_toArray, List.set_cons_zero, List.set_cons_succ])
  refine wpAnyH_take (i := 17) (v := ?_) (by simp only [List.getElem?_toArray, List.getElem?_cons_succ, List.getElem?_cons_zero]; rfl) (by kernel_rfl) (by kernel_rfl) (by kernel_rfl) (by exact fun _ _ _ h => h) (Or.inl ⟨by rfl, ?_⟩) hS ?_
  rotate_left
  · intro w' hS'
    unfold Held at hS'
    go_simp
    rfl
  (try simp only [Act.put, List.setIfInBounds_toArray, List.set_cons_zero, List.set_cons_succ])
  refine wpAnyH_done (by kernel_rfl) ?_ _
  go_wp2_with fail
  go_ret
  refine ⟨rfl, ?_⟩
  refine Below.trans ?_ (Below.mono hb6 (by first | (simp; done) | (simp; omega) | omega))
  (repeat (first | refine Below.alloc ?_ (by first | (simp; done) | (simp; omega) | omega) _ | refine Below.drew ?_ | refine Below.setRow ?_ (by first | (simp; done) | (simp; omega) | omega) _ | refine Below.setCell ?_ (by first | (simp; done) | (simp; omega) | omega) _))
  refine Below.trans ?_ (Below.mono hb5 (by first | (simp; done) | (simp; omega) | omega))
  (repeat (first | refine Below.alloc ?_ (by first | (simp; done) | (simp; omega) | omega) _ | refine Below.drew ?_ | refine Below.setRow ?_ (by first | (simp; done) | (simp; omega) | omega) _ | refine Below.setCell ?_ (by first | (simp; done) | (simp; omega) | omega) _))
  refine Below.trans ?_ (Below.mono hb4 (by first | (simp; done) | (simp; omega) | omega))
  refine Below.trans ?_ (Below.mono hb3 (by first | (simp; done) | (simp; omega) | omega))
  refine Below.trans ?_ (Below.mono hb2 (by first | (simp; done) | (simp; omega) | omega))
  exact hb1
set_option maxRecDepth 20000 in
set_option maxHeartbeats 2000000 in
theorem arpCut_bad (op : Int) (mac tgt : Vector UInt8 6) (ip want : Vector UInt8 4) (cut : Int) (more : List UInt8) (w : World) (h1 : (op != 1) = true) (h2 : (op != 2) = true) :
    Calls Try.prog 5 #[.agg (arpV op mac tgt ip want).toArray, .int .u8 cut, .string ⟨more.toArray⟩] w fun e W' => e = .returned (.bool true) ∧ Below w.heap.size w W' := by
  unfold arpV
  go_enter Try.func5, Try.ntmps5
  go_wp2_with fail
  refine (of09_any op mac tgt ip want _).mono ?_
  rintro e w1 ⟨rfl, hb1⟩
  have z1 := (hb1).size
  try simp at z1
  replace hb1 := below_of hb1 (show Below (w).heap.size w _ from by (repeat (first | exact Below.refl _ _ | refine Below.alloc ?_ (by first | (simp; done) | (simp; omega) | omega) _ | refine Below.drew ?_ | refine Below.setRow ?_ (by first | (simp; done) | (simp; omega) | omega) _ | refine Below.setCell ?_ (by first | (simp; done) | (simp; omega) | omega) _))) (by first | (simp; done) | (simp; omega) | omega)
  unfold arpV
  go_wp2_with fail
  refine (print_out op mac tgt ip want _ h1 h2).mono ?_
  rintro e w2 ⟨rfl, hb2⟩
  have z2 := (hb2).size
  try simp at z2
  go_wp2_with fail
  refine (awake09_any _).mono ?_
  rintro e w3 ⟨rfl, hb3⟩
  go_wp2_with fail
  refine (awake09_any _).mono ?_
  have z3 := (hb3).size
  try simp at z3
  rintro e w4 ⟨rfl, hb4⟩
  go_wp2_with fail
  go_ret
  refine ⟨rfl, ?_⟩
  refine Below.trans ?_ (Below.mono hb4 (by first | (simp; done) | (simp; omega) | omega))
  refine Below.trans ?_ (Below.mono hb3 (by first | (simp; done) | (simp; omega) | omega))
  refine Below.trans ?_ (Below.mono hb2 (by first | (simp; done) | (simp; omega) | omega))
  exact hb1
set_option maxRecDepth 20000 in
set_option maxHeartbeats 2000000 in
theorem arpCut_long (n : Nat) (mac tgt : Vector UInt8 6) (ip want : Vector UInt8 4) (cut : Int) (more : List UInt8) (w : World) (hl : ¬ more.length ≤ 1000) (hm : more.length ≤ maxLen) (hn : n = 1 ∨ n = 2) :
    Calls Try.prog 5 #[.agg (arpV n mac tgt ip want).toArray, .int .u8 cut, .string ⟨more.toArray⟩] w fun e W' => e = .returned (.bool true) ∧ Below w.heap.size w W' := by
  have HN := Lib.hid hn
  clear hn
  unfold maxLen at hm
  unfold arpV
  go_enter Try.func5, Try.ntmps5
  go_wp2_with fail
  refine (of09_any n mac tgt ip want _).mono ?_
  rintro e w1 ⟨rfl, hb1⟩
  have z1 := (hb1).size
  try simp at z1
  replace hb1 := below_of hb1 (show Below (w).heap.size w _ from by (repeat (first | exact Below.refl _ _ | refine Below.alloc ?_ (by first | (simp; done) | (simp; omega) | omega) _ | refine Below.drew ?_ | refine Below.setRow ?_ (by first | (simp; done) | (simp; omega) | omega) _ | refine Below.setCell ?_ (by first | (simp; done) | (simp; omega) | omega) _))) (by first | (simp; done) | (simp; omega) | omega)
  unfold arpV
  go_wp2_with fail
  refine (print_any n mac tgt ip want _ HN.out).mono ?_
  rintro e w2 ⟨rfl, hb2⟩
  have z2 := (hb2).size
  try simp at z2
  go_wp2_with fail
  refine (awake09_any _).mono ?_
  rintro e w3 ⟨rfl, hb3⟩
  have z3 := (hb3).size
  try simp at z3
  go_wp2_with fail
  refine (awake09_any _).mono ?_
  rintro e w4 ⟨rfl, hb4⟩
  go_wp2_with fail
  go_ret
  refine ⟨rfl, ?_⟩
  refine Below.trans ?_ (Below.mono hb4 (by first | (simp; done) | (simp; omega) | omega))
  refine Below.trans ?_ (Below.mono hb3 (by first | (simp; done) | (simp; omega) | omega))
  refine Below.trans ?_ (Below.mono hb2 (by first | (simp; done) | (simp; omega) | omega))
  exact hb1
theorem arpCut_walk (W : World) (base : Nat) (args : Array Value) (hlen : args.size = Try.f5.params.size) (hval : ∀ (j : Nat) t v, Try.f5.params[j]? = some t → args[j]? = some v → Value.okWide Try.prog W .any base t v) :
    Calls Try.prog 5 args W fun e W' => e = .returned (.bool true) ∧ Below W.heap.size W W' := by
  obtain ⟨l⟩ := args
  match l, hlen with
  | [v0, v1, v2], _ =>
  have k0 := hval 0 26 v0 rfl rfl
  have k1 := hval 1 5 v1 rfl rfl
  have k2 := hval 2 9 v2 rfl rfl
  obtain ⟨op, mac, tgt, ip, want, rfl, hop⟩ := open_arp k0
  obtain ⟨cut, rfl, hc⟩ := open_num Try.underlying5 k1
  obtain ⟨more, rfl, hm⟩ := open_str Try.underlying9 k2
  simp [IntKind.has, IntKind.min, IntKind.max, IntKind.bits, IntKind.signed] at hc
  by_cases ho : op = 1 ∨ op = 2
  · obtain ⟨n, rfl⟩ : ∃ n : Nat, op = n := ⟨op.toNat, by omega⟩
    by_cases hl : more.length ≤ 1000
    · exact arpCut_good n mac tgt ip want cut more W hl (by omega) (by omega) (by omega)
    · exact arpCut_long n mac tgt ip want cut more W hl hm (by omega)
  · exact arpCut_bad op mac tgt ip want cut more W (by simp; omega) (by simp; omega)
end Go.Proofs.Ythnjkpecnaglhaa
