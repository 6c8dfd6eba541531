/- The walk of the law ArpBack. -/
import Derived.Test.YthnjkpecnaglhaaArpL
namespace Go.Proofs.Ythnjkpecnaglhaa
open Go.RowKit
set_option maxRecDepth 20000 in
set_option maxHeartbeats 2000000 in
theorem arpBack_good (n : Nat) (mac tgt : Vector UInt8 6) (ip want : Vector UInt8 4) (more : List UInt8) (w : World) (hl : more.length ≤ 1000) (hn : n = 1 ∨ n = 2) :
    Calls Try.prog 3 #[.agg (arpV n mac tgt ip want).toArray, .string ⟨more.toArray⟩] w fun e W' => e = .returned (.bool true) ∧ Below w.heap.size w W' := by
  have HN := Lib.hid hn
  clear hn
  go_enter Try.func3, Try.ntmps3
  go_wp2_with fail
  refine (awake09_any _).mono ?_
  rintro e w1 ⟨rfl, hb1⟩
  have r1 : row w1 w.heap.size = (arpV n mac tgt ip want).toArray := by rw [row_below hb1 (by simp)]; simp [go_sem]
  unfold arpV at r1
  have z1 := (hb1).size
  try simp at z1
  go_wp2_with fail
  refine (of09_any n mac tgt ip want _).mono ?_
  rintro e w2 ⟨rfl, hb2⟩
  have r2 : row w2 w.heap.size = row w1 w.heap.size := row_below hb2 (by omega)
  rw [r1] at r2
  have z2 := (hb2).size
  try simp at z2
  unfold arpV
  go_wp2_with fail
  refine (print_any n mac tgt ip want _ HN.out).mono ?_
  rintro e w3 ⟨rfl, hb3⟩
  have r3 : row w3 w.heap.size = row w2 w.heap.size := row_below hb3 (by omega)
  rw [r2] at r3
  have z3 := (hb3).size
  try simp at z3
  have ls := arpS_length n mac tgt ip want
  go_wp2_with fail
  refine (parse_print n mac tgt ip want more _ HN.out hl).mono ?_
  rintro e w4 ⟨rfl, hb4⟩
  have r4 : row w4 w.heap.size = row w3 w.heap.size := row_below hb4 (by omega)
  rw [r3] at r4
  have z4 := (hb4).size
  try simp at z4
  have q4 : w.heap.size < w4.heap.size := by omega
  unfold arpV
  go_wp2_with fail
  refine wp_region_beginS (S := Held (fun w' => row w' w.heap.size = (.int .i64 n :: (u8v mac ++ (u8v tgt ++ (u8v ip ++ u8v want)))).toArray ∧ row w' w4.heap.size = (.int .i64 n :: (u8v mac ++ (u8v tgt ++ (u8v ip ++ u8v want)))).toArray)) rfl ?_ (fun hS => ?_)
  · unfold Held
    simp [go_sem, *]
  refine wpAnyH_take (i := 0) (v := ?_) (by simp only [List.getElem?_toArray, List.getElem?_cons_succ, List.getElem?_cons_zero]; rfl) (by kernel_rfl) (by kernel_rfl) (by kernel_rfl) (by exact fun _ _ _ h => h) (Or.inl ⟨by rfl, ?_⟩) hS ?_
  rotate_left
  · intro w' hS'
    unfold Held at hS'
    go_simp
    rfl
  (try simp only [Act.put, List.setIfInBounds_toArray, List.set_cons_zero, List.set_cons_succ])
  refine wpAnyH_take (i := 1) (v := ?_) (by simp only [List.getElem?_toArray, List.getElem?_cons_succ, List.getElem?_cons_zero]; rfl) (by kernel_rfl) (by kernel_rfl) (by kernel_rfl) (by exact fun _ _ _ h => h) (Or.inl ⟨by rfl, ?_⟩) hS ?_
  rotate_left
  · intro w' hS'
    unfold Held at hS'
    go_simp
    rfl
  (try simp only [Act.put, List.setIfInBounds_toArray, List.set_cons_zero, List.set_cons_succ])
  refine wpAnyH_take (i := 2) (v := ?_) (by simp only [List.getElem?_toArray, List.getElem?_cons_succ, List.getElem?_cons_zero]; rfl) (by kernel_rfl) (by kernel_rfl) (by kernel_rfl) (by exact fun _ _ _ h => h) (Or.inl ⟨by rfl, ?_⟩) hS ?_
  rotate_left
  · intro w' hS'
    unfold Held at hS'
    go_simp
    rfl
  (try simp only [Act.put, List.setIfInBounds_toArray, List.set_cons_zero, List.set_cons_succ])
  refine wpAnyH_take (i := 3) (v := ?_) (by simp only [List.getElem?_toArray, List.getElem?_cons_succ, List.getElem?_cons_zero]; rfl) (by kernel_rfl) (by kernel_rfl) (by kernel_rfl) (by exact fun _ _ _ h => h) (Or.inl ⟨by rfl, ?_⟩) hS ?_
  rotate_left
  · intro w' hS'
    unfold Held at hS'
    go_simp
    rfl
  (try simp only [Act.put, List.setIfInBounds_toArray, List.set_cons_zero, List.set_cons_succ])
  refine wpAnyH_take (i := 5) (v := ?_) (by simp only [List.getElem?_toArray, List.getElem?_cons_succ, List.getElem?_cons_zero]; rfl) (by kernel_rfl) (by kernel_rfl) (by kernel_rfl) (by exact fun _ _ _ h => h) (Or.inl ⟨by rfl, ?_⟩) hS ?_
  rotate_left
  · intro w' hS'
    unfold Held at hS'
    go_simp
    rfl
  (try simp only [Act.put, List.setIfInBounds_toArray, List.set_cons_zero, List.set_cons_succ])
  refine wpAnyH_all (rs := [4]) (by kernel_rfl) (by simp) ?_
  intro i hi
  obtain rfl := List.mem_singleton.1 hi
  refine wpOp_step rfl (fun K hK => ?_)
  clear hi hS
  go_simp
  refine (plain09_any n mac tgt ip want _).mono ?_
  rintro e w5 ⟨rfl, hb5⟩
  unfold arpV
  refine hK _ _ (wpAnyH_same ?_ (fun hS => ?_))
  · unfold Held
    refine ⟨?_, ?_⟩ <;> (rw [row_below hb5 (by first | (simp; done) | (simp; omega) | omega)]; simp [go_sem, *])
  clear hK K
  refine wpAnyH_take (i := 6) (v := ?_) (by simp only [List.getElem?_toArray, List.getElem?_cons_succ, List.getElem?_cons_zero]; rfl) (by kernel_rfl) (by kernel_rfl) (by kernel_rfl) (by exact fun _ _ _ h => h) (Or.inl ⟨by rfl, ?_⟩) hS ?_
  rotate_left
  · intro w' hS'
    unfold Held at hS'
    go_simp
    rfl
  (try simp only [Act.put, List.setIfInBounds_toArray, List.set_cons_zero, List.set_cons_succ])
  refine wpAnyH_take (i := 7) (v := ?_) (by simp only [List.getElem?_toArray, List.getElem?_cons_succ, List.getElem?_cons_zero]; rfl) (by kernel_rfl) (by kernel_rfl) (by kernel_rfl) (by exact fun _ _ _ h => h) (Or.inl ⟨by rfl, ?_⟩) hS ?_
  rotate_left
  · intro w' hS'
    unfold Held at hS'
    go_simp
    rfl
  (try simp only [Act.put, List.setIfInBounds_toArray, List.set_cons_zero, List.set_cons_succ])
  refine wpAnyH_take (i := 8) (v := ?_) (by simp only [List.getElem?_toArray, List.getElem?_cons_succ, List.getElem?_cons_zero]; rfl) (by kernel_rfl) (by kernel_rfl) (by kernel_rfl) (by exact fun _ _ _ h => h) (Or.inl ⟨by rfl, ?_⟩) hS ?_
  rotate_left
  · intro w' hS'
    unfold Held at hS'
    go_simp
    rfl
  (try simp only [Act.put, List.setIfInBounds_toArray, List.set_cons_zero, List.set_cons_succ])
  refine wpAnyH_done (by kernel_rfl) ?_ _
  go_wp2_with fail
  go_ret
  refine ⟨rfl, ?_⟩
  refine Below.trans ?_ (Below.mono hb5 (by first | (simp; done) | (simp; omega) | omega))
  (repeat (first | refine Below.alloc ?_ (by first | (simp; done) | (simp; omega) | omega) _ | refine Below.drew ?_ | refine Below.setRow ?_ (by first | (simp; done) | (simp; omega) | omega) _ | refine Below.setCell ?_ (by first | (simp; done) | (simp; omega) | omega) _))
  refine Below.trans ?_ (Below.mono hb4 (by first | (simp; done) | (simp; omega) | omega))
  refine Below.trans ?_ (Below.mono hb3 (by first | (simp; done) | (simp; omega) | omega))
  refine Below.trans ?_ (Below.mono hb2 (by first | (simp; done) | (simp; omega) | omega))
  refine Below.trans ?_ (Below.mono hb1 (by first | (simp; done) | (simp; omega) | omega))
  (repeat (first | exact Below.refl _ _ | refine Below.alloc ?_ (by first | (simp; done) | (simp; omega) | omega) _ | refine Below.drew ?_ | refine Below.setRow ?_ (by first | (simp; done) | (simp; omega) | omega) _ | refine Below.setCell ?_ (by first | (simp; done) | (simp; omega) | omega) _))
set_option maxRecDepth 20000 in
set_option maxHeartbeats 2000000 in
theorem arpBack_bad (op : Int) (mac tgt : Vector UInt8 6) (ip want : Vector UInt8 4) (more : List UInt8) (w : World) (hl : more.length ≤ 1000) (h1 : (op != 1) = true) (h2 : (op != 2) = true) :
    Calls Try.prog 3 #[.agg (arpV op mac tgt ip want).toArray, .string ⟨more.toArray⟩] w fun e W' => e = .returned (.bool true) ∧ Below w.heap.size w W' := by
  go_enter Try.func3, Try.ntmps3
  go_wp2_with fail
  refine (awake09_any _).mono ?_
  rintro e w1 ⟨rfl, hb1⟩
  have r1 : row w1 w.heap.size = (arpV op mac tgt ip want).toArray := by rw [row_below hb1 (by simp)]; simp [go_sem]
  unfold arpV at r1
  have z1 := (hb1).size
  try simp at z1
  go_wp2_with fail
  refine (of09_any op mac tgt ip want _).mono ?_
  rintro e w2 ⟨rfl, hb2⟩
  have r2 : row w2 w.heap.size = row w1 w.heap.size := row_below hb2 (by omega)
  rw [r1] at r2
  have z2 := (hb2).size
  try simp at z2
  unfold arpV
  go_wp2_with fail
  refine (print_out op mac tgt ip want _ h1 h2).mono ?_
  rintro e w3 ⟨rfl, hb3⟩
  have r3 : row w3 w.heap.size = row w2 w.heap.size := row_below hb3 (by omega)
  rw [r2] at r3
  have z3 := (hb3).size
  try simp at z3
  go_wp2_with fail
  go_ret
  refine ⟨rfl, ?_⟩
  refine Below.trans ?_ (Below.mono hb3 (by first | (simp; done) | (simp; omega) | omega))
  refine Below.trans ?_ (Below.mono hb2 (by first | (simp; done) | (simp; omega) | omega))
  refine Below.trans ?_ (Below.mono hb1 (by first | (simp; done) | (simp; omega) | omega))
  (repeat (first | exact Below.refl _ _ | refine Below.alloc ?_ (by first | (simp; done) | (simp; omega) | omega) _ | refine Below.drew ?_ | refine Below.setRow ?_ (by first | (simp; done) | (simp; omega) | omega) _ | refine Below.setCell ?_ (by first | (simp; done) | (simp; omega) | omega) _))
set_option maxHeartbeats 1000000 in
theorem arpBack_long (op : Int) (mac tgt : Vector UInt8 6) (ip want : Vector UInt8 4) (more : List UInt8) (w : World) (hl : ¬ more.length ≤ 1000) (hm : more.length ≤ maxLen) :
    Calls Try.prog 3 #[.agg (arpV op mac tgt ip want).toArray, .string ⟨more.toArray⟩] w fun e W' => e = .returned (.bool true) ∧ Below w.heap.size w W' := by
  unfold maxLen at hm
  go_enter Try.func3, Try.ntmps3
  go_wp2_with fail
  refine (awake09_any _).mono ?_
  rintro e w1 ⟨rfl, hb1⟩
  have z1 := (hb1).size
  try simp at z1
  go_wp2_with fail
  refine (awake09_any _).mono ?_
  rintro e w2 ⟨rfl, hb2⟩
  go_wp2_with fail
  go_ret
  refine ⟨rfl, ?_⟩
  refine Below.trans ?_ (Below.mono hb2 (by first | (simp; done) | (simp; omega) | omega))
  refine Below.trans ?_ (Below.mono hb1 (by first | (simp; done) | (simp; omega) | omega))
  (repeat (first | exact Below.refl _ _ | refine Below.alloc ?_ (by first | (simp; done) | (simp; omega) | omega) _ | refine Below.drew ?_ | refine Below.setRow ?_ (by first | (simp; done) | (simp; omega) | omega) _ | refine Below.setCell ?_ (by first | (simp; done) | (simp; omega) | omega) _))
theorem arpBack_walk (W : World) (base : Nat) (args : Array Value) (hlen : args.size = Try.f3.params.size) (hval : ∀ (j : Nat) t v, Try.f3.params[j]? = some t → args[j]? = some v → Value.okWide Try.prog W .any base t v) :
    Calls Try.prog 3 args W fun e W' => e = .returned (.bool true) ∧ Below W.heap.size W W' := by
  obtain ⟨l⟩ := args
  match l, hlen with
  | [v0, v1], _ =>
  have k0 := hval 0 26 v0 rfl rfl
  have k1 := hval 1 9 v1 rfl rfl
  obtain ⟨op, mac, tgt, ip, want, rfl, hop⟩ := open_arp k0
  obtain ⟨more, rfl, hm⟩ := open_str Try.underlying9 k1
  by_cases hl : more.length ≤ 1000
  · by_cases ho : op = 1 ∨ op = 2
    · obtain ⟨n, rfl⟩ : ∃ n : Nat, op = n := ⟨op.toNat, by omega⟩
      exact arpBack_good n mac tgt ip want more W hl (by omega)
    · exact arpBack_bad op mac tgt ip want more W hl (by simp; omega) (by simp; omega)
  · exact arpBack_long op mac tgt ip want more W hl hm
end Go.Proofs.Ythnjkpecnaglhaa
