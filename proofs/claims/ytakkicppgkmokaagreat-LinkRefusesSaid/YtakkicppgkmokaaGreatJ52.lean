/- Texts of this proof, merged: LnkG, LnkT, LnkK, LnkW. -/
import Derived.Test.YtakkicppgkmokaaGreatLnk
import Derived.Test.YtakkicppgkmokaaGreatTunP
import Derived.Test.YtakkicppgkmokaaGreatNoiVJ
import Derived.Test.YtakkicppgkmokaaGreatArgs
/- Contracts of package link: an end that greets. -/
section
set_option linter.unusedSimpArgs false
set_option linter.unusedVariables false
set_option maxRecDepth 4000
namespace Go.Proofs.YtakkicppgkmokaaGreat
open Go.RowKit
attribute [local irreducible] greetL hailT
theorem LinkT.cells_length (t : LinkT) (h : t.psk.length = 32) : t.cells.length = 45 := by simp [LinkT.cells, h]
set_option maxRecDepth 20000 in
set_option maxHeartbeats 2000000 in
theorem lgreet_go (psk sec : List UInt8) (r k p d now asked made last : Int) (b c : Option Addr) (S : Nat) (w : World) (hp : psk.length = 32) (hs : sec.length = 32) (hS : row w S = (⟨psk, true, r, k, p, d, now, none, b, c, none, asked, made, last⟩ : LinkT).cells.toArray) :
    Calls Tryz.prog 45 #[.pointer (some ⟨S, 0, none⟩), .agg (u8s sec).toArray] w fun e w' => ∃ T g, e = .returned (.slice (some ⟨g, 0, none⟩) 1 1) ∧ row w' g = #[.string ⟨(1 :: greetL psk sec).toArray⟩] ∧ w.heap.size ≤ g ∧ g < w'.heap.size ∧ row w' T = (hailT psk sec).cells.toArray ∧ w.heap.size ≤ T ∧ T < w'.heap.size ∧ T ≠ g ∧
      row w' S = (⟨psk, true, r, k, p, d, now, none, b, c, some ⟨T, 0, none⟩, now, made, last⟩ : LinkT).cells.toArray ∧ BelowBut w.heap.size S w w' := by
  have zS : S < w.heap.size := lt_of_row (i := 0) (by rw [hS]; simp [LinkT.cells, hp])
  have HG := Lib.hid (fun w => hello_any psk sec w hp hs)
  have lg := greetL_length psk sec
  obtain ⟨g, hg⟩ : ∃ g, greetL psk sec = g := ⟨_, rfl⟩
  obtain ⟨H, hH⟩ : ∃ g, hailT psk sec = g := ⟨_, rfl⟩
  rw [hg] at HG lg ⊢
  rw [hH] at HG ⊢
  have HP := Lib.hid (fun w => tunPrint12 w 1 (.inl rfl) g lg)
  rw [show byteI 1 = 1 from rfl] at HP
  have LG := Lib.hid lg
  clear hg hH lg
  unfold LinkT.cells at hS ⊢
  simp only at hS ⊢
  go_enter Tryz.func45, Tryz.ntmps45
  obtain ⟨W, hW⟩ : ∃ v, w.alloc (.cells (u8s sec).toArray 23) = v := ⟨_, rfl⟩
  have rK : row W w.heap.size = (u8s sec).toArray := by rw [← hW]; simp [go_sem]
  have zW : W.heap.size = w.heap.size + 1 := by rw [← hW]; simp
  have bW : Below w.heap.size w W := by
    rw [← hW]
    (repeat (first | exact Below.refl _ _ | refine Below.alloc ?_ (by first | (simp; done) | (simp; omega) | omega) _ | refine Below.drew ?_ | refine Below.setRow ?_ (by first | (simp; done) | (simp; omega) | omega) _ | refine Below.setCell ?_ (by first | (simp; done) | (simp; omega) | omega) _))
  have rS := (row_below bW (by omega)).trans hS
  have HRow := Lib.hid hS
  clear hS
  go_wp2_with fail
  clear hW
  refine wp_region_beginR [(S, (u8s psk ++ (Value.bool true :: Value.int .i64 r :: Value.int .i64 k :: Value.int .i64 p :: Value.int .i64 d :: Value.int .i64 now :: Value.pointer none :: Value.pointer b :: Value.pointer c :: Value.pointer none :: Value.int .i64 asked :: Value.int .i64 made :: [Value.int .i64 last])).toArray)] rfl (by simp only [Rws]; (repeat (first | exact trivial | refine ⟨(by first | assumption | (simp [go_sem, *]; done)), (by first | omega | (simp; done) | (simp; omega)), ?_⟩))) (fun hS => ?_)
  refine wpAnyR_take (i := 0) (v := ?_) (by simp only [List.getElem?_toArray, List.getElem?_cons_succ, List.getElem?_cons_zero]; rfl) (by kernel_rfl) (by kernel_rfl) (by kernel_rfl) (by first | exact fun _ _ _ h => h | exact fun _ _ _ h => by cases h.1) (Rws.grow _) (Or.inl ⟨by rfl, ?_⟩) hS ?_
  rotate_left
  · intro w' hS'
    simp only [Rws] at hS'
    go_simp
    refine ⟨?_, Below.refl _ _⟩
    rfl
  (try simp only [Act.put, List.setIfInBounds_toArray, List.set_cons_zero, List.set_cons_succ])
  refine wpAnyR_take (i := 1) (v := ?_) (by simp only [List.getElem?_toArray, List.getElem?_cons_succ, List.getElem?_cons_zero]; rfl) (by kernel_rfl) (by kernel_rfl) (by kernel_rfl) (by first | exact fun _ _ _ h => h | exact fun _ _ _ h => by cases h.1) (Rws.grow _) (Or.inl ⟨by rfl, ?_⟩) hS ?_
  rotate_left
  · intro w' hS'
    simp only [Rws] at hS'
    go_simp
    refine ⟨?_, Below.refl _ _⟩
    rfl
  (try simp only [Act.put, List.setIfInBounds_toArray, List.set_cons_zero, List.set_cons_succ])
  refine wpAnyR_take (i := 2) (v := ?_) (by simp only [List.getElem?_toArray, List.getElem?_cons_succ, List.getElem?_cons_zero]; rfl) (by kernel_rfl) (by kernel_rfl) (by kernel_rfl) (by first | exact fun _ _ _ h => h | exact fun _ _ _ h => by cases h.1) (Rws.grow _) (Or.inl ⟨by rfl, ?_⟩) hS ?_
  rotate_left
  · intro w' hS'
    simp only [Rws] at hS'
    go_simp
    refine ⟨?_, Below.refl _ _⟩
    rfl
  (try simp only [Act.put, List.setIfInBounds_toArray, List.set_cons_zero, List.set_cons_succ])
  refine wpAnyR_take (i := 3) (v := undef) (by simp only [List.getElem?_toArray, List.getElem?_cons_succ, List.getElem?_cons_zero]; rfl) (by kernel_rfl) (by kernel_rfl) (by kernel_rfl) (by first | exact fun _ _ _ h => h | exact fun _ _ _ h => by cases h.1) (Rws.grow _) (Or.inr ⟨by rfl, by rfl⟩) hS ?_
  (try simp only [Act.put, List.setIfInBounds_toArray, List.set_cons_zero, List.set_cons_succ])
  refine wpAnyR_take (i := 4) (v := undef) (by simp only [List.getElem?_toArray, List.getElem?_cons_succ, List.getElem?_cons_zero]; rfl) (by kernel_rfl) (by kernel_rfl) (by kernel_rfl) (by first | exact fun _ _ _ h => h | exact fun _ _ _ h => by cases h.1) (Rws.grow _) (Or.inr ⟨by rfl, by rfl⟩) hS ?_
  (try simp only [Act.put, List.setIfInBounds_toArray, List.set_cons_zero, List.set_cons_succ])
  refine wpAnyR_take (i := 5) (v := undef) (by simp only [List.getElem?_toArray, List.getElem?_cons_succ, List.getElem?_cons_zero]; rfl) (by kernel_rfl) (by kernel_rfl) (by kernel_rfl) (by first | exact fun _ _ _ h => h | exact fun _ _ _ h => by cases h.1) (Rws.grow _) (Or.inr ⟨by rfl, by rfl⟩) hS ?_
  (try simp only [Act.put, List.setIfInBounds_toArray, List.set_cons_zero, List.set_cons_succ])
  refine wpAnyR_take (i := 6) (v := undef) (by simp only [List.getElem?_toArray, List.getElem?_cons_succ, List.getElem?_cons_zero]; rfl) (by kernel_rfl) (by kernel_rfl) (by kernel_rfl) (by first | exact fun _ _ _ h => h | exact fun _ _ _ h => by cases h.1) (Rws.grow _) (Or.inr ⟨by rfl, by rfl⟩) hS ?_
  (try simp only [Act.put, List.setIfInBounds_toArray, List.set_cons_zero, List.set_cons_succ])
  refine wpAnyR_take (i := 7) (v := undef) (by simp only [List.getElem?_toArray, List.getElem?_cons_succ, List.getElem?_cons_zero]; rfl) (by kernel_rfl) (by kernel_rfl) (by kernel_rfl) (by first | exact fun _ _ _ h => h | exact fun _ _ _ h => by cases h.1) (Rws.grow _) (Or.inr ⟨by rfl, by rfl⟩) hS ?_
  (try simp only [Act.put, List.setIfInBounds_toArray, List.set_cons_zero, List.set_cons_succ])
  refine wpAnyR_take (i := 8) (v := undef) (by simp only [List.getElem?_toArray, List.getElem?_cons_succ, List.getElem?_cons_zero]; rfl) (by kernel_rfl) (by kernel_rfl) (by kernel_rfl) (by first | exact fun _ _ _ h => h | exact fun _ _ _ h => by cases h.1) (Rws.grow _) (Or.inr ⟨by rfl, by rfl⟩) hS ?_
  (try simp only [Act.put, List.setIfInBounds_toArray, List.set_cons_zero, List.set_cons_succ])
  refine wpAnyR_take (i := 9) (v := undef) (by simp only [List.getElem?_toArray, List.getElem?_cons_succ, List.getElem?_cons_zero]; rfl) (by kernel_rfl) (by kernel_rfl) (by kernel_rfl) (by first | exact fun _ _ _ h => h | exact fun _ _ _ h => by cases h.1) (Rws.grow _) (Or.inr ⟨by rfl, by rfl⟩) hS ?_
  (try simp only [Act.put, List.setIfInBounds_toArray, List.set_cons_zero, List.set_cons_succ])
  refine wpAnyR_take (i := 10) (v := undef) (by simp only [List.getElem?_toArray, List.getElem?_cons_succ, List.getElem?_cons_zero]; rfl) (by kernel_rfl) (by kernel_rfl) (by kernel_rfl) (by first | exact fun _ _ _ h => h | exact fun _ _ _ h => by cases h.1) (Rws.grow _) (Or.inr ⟨by rfl, by rfl⟩) hS ?_
  (try simp only [Act.put, List.setIfInBounds_toArray, List.set_cons_zero, List.set_cons_succ])
  refine wpAnyR_take (i := 11) (v := undef) (by simp only [List.getElem?_toArray, List.getElem?_cons_succ, List.getElem?_cons_zero]; rfl) (by kernel_rfl) (by kernel_rfl) (by kernel_rfl) (by first | exact fun _ _ _ h => h | exact fun _ _ _ h => by cases h.1) (Rws.grow _) (Or.inr ⟨by rfl, by rfl⟩) hS ?_
  (try simp only [Act.put, List.setIfInBounds_toArray, List.set_cons_zero, List.set_cons_succ])
  refine wpAnyR_take (i := 12) (v := undef) (by simp only [List.getElem?_toArray, List.getElem?_cons_succ, List.getElem?_cons_zero]; rfl) (by kernel_rfl) (by kernel_rfl) (by kernel_rfl) (by first | exact fun _ _ _ h => h | exact fun _ _ _ h => by cases h.1) (Rws.grow _) (Or.inr ⟨by rfl, by rfl⟩) hS ?_
  (try simp only [Act.put, List.setIfInBounds_toArray, List.set_cons_zero, List.set_cons_succ])
  refine wpAnyR_take (i := 13) (v := undef) (by simp only [List.getElem?_toArray, List.getElem?_cons_succ, List.getElem?_cons_zero]; rfl) (by kernel_rfl) (by kernel_rfl) (by kernel_rfl) (by first | exact fun _ _ _ h => h | exact fun _ _ _ h => by cases h.1) (Rws.grow _) (Or.inr ⟨by rfl, by rfl⟩) hS ?_
  (try simp only [Act.put, List.setIfInBounds_toArray, List.set_cons_zero, List.set_cons_succ])
  refine wpAnyR_take (i := 14) (v := undef) (by simp only [List.getElem?_toArray, List.getElem?_cons_succ, List.getElem?_cons_zero]; rfl) (by kernel_rfl) (by kernel_rfl) (by kernel_rfl) (by first | exact fun _ _ _ h => h | exact fun _ _ _ h => by cases h.1) (Rws.grow _) (Or.inr ⟨by rfl, by rfl⟩) hS ?_
  (try simp only [Act.put, List.setIfInBounds_toArray, List.set_cons_zero, List.set_cons_succ])
  refine wpAnyR_take (i := 15) (v := undef) (by simp only [List.getElem?_toArray, List.getElem?_cons_succ, List.getElem?_cons_zero]; rfl) (by kernel_rfl) (by kernel_rfl) (by kernel_rfl) (by first | exact fun _ _ _ h => h | exact fun _ _ _ h => by cases h.1) (Rws.grow _) (Or.inr ⟨by rfl, by rfl⟩) hS ?_
  (try simp only [Act.put, List.setIfInBounds_toArray, List.set_cons_zero, List.set_cons_succ])
  refine wpAnyR_take (i := 16) (v := undef) (by simp only [List.getElem?_toArray, List.getElem?_cons_succ, List.getElem?_cons_zero]; rfl) (by kernel_rfl) (by kernel_rfl) (by kernel_rfl) (by first | exact fun _ _ _ h => h | exact fun _ _ _ h => by cases h.1) (Rws.grow _) (Or.inr ⟨by rfl, by rfl⟩) hS ?_
  (try simp only [Act.put, List.setIfInBounds_toArray, List.set_cons_zero, List.set_cons_succ])
  refine wpAnyR_take (i := 17) (v := undef) (by simp only [List.getElem?_toArray, List.getElem?_cons_succ, List.getElem?_cons_zero]; rfl) (by kernel_rfl) (by kernel_rfl) (by kernel_rfl) (by first | exact fun _ _ _ h => h | exact fun _ _ _ h => by cases h.1) (Rws.grow _) (Or.inr ⟨by rfl, by rfl⟩) hS ?_
  (try simp only [Act.put, List.setIfInBounds_toArray, List.set_cons_zero, List.set_cons_succ])
  refine wpAnyR_take (i := 18) (v := ?_) (by simp only [List.getElem?_toArray, List.getElem?_cons_succ, List.getElem?_cons_zero]; rfl) (by kernel_rfl) (by kernel_rfl) (by kernel_rfl) (by first | exact fun _ _ _ h => h | exact fun _ _ _ h => by cases h.1) (Rws.grow _) (Or.inl ⟨by rfl, ?_⟩) hS ?_
  rotate_left
  · intro w' hS'
    simp only [Rws] at hS'
    go_simp
    refine ⟨?_, Below.refl _ _⟩
    rfl
  (try simp only [Act.put, List.setIfInBounds_toArray, List.set_cons_zero, List.set_cons_succ])
  refine wpAnyR_take (i := 19) (v := ?_) (by simp only [List.getElem?_toArray, List.getElem?_cons_succ, List.getElem?_cons_zero]; rfl) (by kernel_rfl) (by kernel_rfl) (by kernel_rfl) (by first | exact fun _ _ _ h => h | exact fun _ _ _ h => by cases h.1) (Rws.grow _) (Or.inl ⟨by rfl, ?_⟩) hS ?_
  rotate_left
  · intro w' hS'
    simp only [Rws] at hS'
    go_simp
    refine ⟨?_, Below.refl _ _⟩
    rfl
  (try simp only [Act.put, List.setIfInBounds_toArray, List.set_cons_zero, List.set_cons_succ])
  refine wpAnyR_done (by kernel_rfl) (fun w1 b1 => ?_) _
  replace b1 : Below (W).heap.size (W) w1 := below_step (Below.drew (Below.refl _ _)) b1
  have z1 := b1.size
  have rS1 := (row_below b1 (by omega)).trans rS
  have rK1 := (row_below b1 (by omega)).trans rK
  have bb1 := bW.trans (b1.mono (by omega))
  clear b1 rS rK bW hS
  go_wp2_with fail
  refine wp_region_beginR [(S, (u8s psk ++ (Value.bool true :: Value.int .i64 r :: Value.int .i64 k :: Value.int .i64 p :: Value.int .i64 d :: Value.int .i64 now :: Value.pointer none :: Value.pointer b :: Value.pointer c :: Value.pointer none :: Value.int .i64 asked :: Value.int .i64 made :: [Value.int .i64 last])).toArray)] rfl (by simp only [Rws]; (repeat (first | exact trivial | refine ⟨(by first | assumption | (simp [go_sem, *]; done)), (by first | omega | (simp; done) | (simp; omega)), ?_⟩))) (fun hS => ?_)
  refine wpAnyR_take (i := 0) (v := ?_) (by simp only [List.getElem?_toArray, List.getElem?_cons_succ, List.getElem?_cons_zero]; rfl) (by kernel_rfl) (by kernel_rfl) (by kernel_rfl) (by first | exact fun _ _ _ h => h | exact fun _ _ _ h => by cases h.1) (Rws.grow _) (Or.inl ⟨by rfl, ?_⟩) hS ?_
  rotate_left
  · intro w' hS'
    simp only [Rws] at hS'
    go_simp
    refine ⟨?_, Below.refl _ _⟩
    rfl
  (try simp only [Act.put, List.setIfInBounds_toArray, List.set_cons_zero, List.set_cons_succ])
  refine wpAnyR_take (i := 1) (v := ?_) (by simp only [List.getElem?_toArray, List.getElem?_cons_succ, List.getElem?_cons_zero]; rfl) (by kernel_rfl) (by kernel_rfl) (by kernel_rfl) (by first | exact fun _ _ _ h => h | exact fun _ _ _ h => by cases h.1) (Rws.grow _) (Or.inl ⟨by rfl, ?_⟩) hS ?_
  rotate_left
  · intro w' hS'
    simp only [Rws] at hS'
    go_simp
    refine ⟨?_, Below.refl _ _⟩
    rfl
  (try simp only [Act.put, List.setIfInBounds_toArray, List.set_cons_zero, List.set_cons_succ])
  refine wpAnyR_take (i := 2) (v := ?_) (by simp only [List.getElem?_toArray, List.getElem?_cons_succ, List.getElem?_cons_zero]; rfl) (by kernel_rfl) (by kernel_rfl) (by kernel_rfl) (by first | exact fun _ _ _ h => h | exact fun _ _ _ h => by cases h.1) (Rws.grow _) (Or.inl ⟨by rfl, ?_⟩) hS ?_
  rotate_left
  · intro w' hS'
    simp only [Rws] at hS'
    go_simp
    refine ⟨?_, Below.refl _ _⟩
    rfl
  (try simp only [Act.put, List.setIfInBounds_toArray, List.set_cons_zero, List.set_cons_succ])
  refine wpAnyR_take (i := 3) (v := ?_) (by simp only [List.getElem?_toArray, List.getElem?_cons_succ, List.getElem?_cons_zero]; rfl) (by kernel_rfl) (by kernel_rfl) (by kernel_rfl) (by first | exact fun _ _ _ h => h | exact fun _ _ _ h => by cases h.1) (Rws.grow _) (Or.inl ⟨by rfl, ?_⟩) hS ?_
  rotate_left
  · intro w' hS'
    simp only [Rws] at hS'
    go_simp
    refine ⟨?_, Below.refl _ _⟩
    rfl
  (try simp only [Act.put, List.setIfInBounds_toArray, List.set_cons_zero, List.set_cons_succ])
  refine wpAnyR_take (i := 4) (v := ?_) (by simp only [List.getElem?_toArray, List.getElem?_cons_succ, List.getElem?_cons_zero]; rfl) (by kernel_rfl) (by kernel_rfl) (by kernel_rfl) (by first | exact fun _ _ _ h => h | exact fun _ _ _ h => by cases h.1) (Rws.grow _) (Or.inl ⟨by rfl, ?_⟩) hS ?_
  rotate_left
  · intro w' hS'
    simp only [Rws] at hS'
    go_simp
    refine ⟨?_, Below.refl _ _⟩
    rfl
  (try simp only [Act.put, List.setIfInBounds_toArray, List.set_cons_zero, List.set_cons_succ])
  refine wpAnyR_take (i := 5) (v := ?_) (by simp only [List.getElem?_toArray, List.getElem?_cons_succ, List.getElem?_cons_zero]; rfl) (by kernel_rfl) (by kernel_rfl) (by kernel_rfl) (by first | exact fun _ _ _ h => h | exact fun _ _ _ h => by cases h.1) (Rws.grow _) (Or.inl ⟨by rfl, ?_⟩) hS ?_
  rotate_left
  · intro w' hS'
    simp only [Rws] at hS'
    go_simp
    refine ⟨?_, Below.refl _ _⟩
    rfl
  (try simp only [Act.put, List.setIfInBounds_toArray, List.set_cons_zero, List.set_cons_succ])
  refine wpAnyR_take (i := 6) (v := ?_) (by simp only [List.getElem?_toArray, List.getElem?_cons_succ, List.getElem?_cons_zero]; rfl) (by kernel_rfl) (by kernel_rfl) (by kernel_rfl) (by first | exact fun _ _ _ h => h | exact fun _ _ _ h => by cases h.1) (Rws.grow _) (Or.inl ⟨by rfl, ?_⟩) hS ?_
  rotate_left
  · intro w' hS'
    simp only [Rws] at hS'
    go_simp
    refine ⟨?_, Below.refl _ _⟩
    rfl
  (try simp only [Act.put, List.setIfInBounds_toArray, List.set_cons_zero, List.set_cons_succ])
  refine wpAnyR_take (i := 7) (v := ?_) (by simp only [List.getElem?_toArray, List.getElem?_cons_succ, List.getElem?_cons_zero]; rfl) (by kernel_rfl) (by kernel_rfl) (by kernel_rfl) (by first | exact fun _ _ _ h => h | exact fun _ _ _ h => by cases h.1) (Rws.grow _) (Or.inl ⟨by rfl, ?_⟩) hS ?_
  rotate_left
  · intro w' hS'
    simp only [Rws] at hS'
    go_simp
    refine ⟨?_, Below.refl _ _⟩
    rfl
  (try simp only [Act.put, List.setIfInBounds_toArray, List.set_cons_zero, List.set_cons_succ])
  refine wpAnyR_take (i := 8) (v := ?_) (by simp only [List.getElem?_toArray, List.getElem?_cons_succ, List.getElem?_cons_zero]; rfl) (by kernel_rfl) (by kernel_rfl) (by kernel_rfl) (by first | exact fun _ _ _ h => h | exact fun _ _ _ h => by cases h.1) (Rws.grow _) (Or.inl ⟨by rfl, ?_⟩) hS ?_
  rotate_left
  · intro w' hS'
    simp only [Rws] at hS'
    go_simp
    refine ⟨?_, Below.refl _ _⟩
    rfl
  (try simp only [Act.put, List.setIfInBounds_toArray, List.set_cons_zero, List.set_cons_succ])
  refine wpAnyR_take (i := 9) (v := ?_) (by simp only [List.getElem?_toArray, List.getElem?_cons_succ, List.getElem?_cons_zero]; rfl) (by kernel_rfl) (by kernel_rfl) (by kernel_rfl) (by first | exact fun _ _ _ h => h | exact fun _ _ _ h => by cases h.1) (Rws.grow _) (Or.inl ⟨by rfl, ?_⟩) hS ?_
  rotate_left
  · intro w' hS'
    simp only [Rws] at hS'
    go_simp
    refine ⟨?_, Below.refl _ _⟩
    rfl
  (try simp only [Act.put, List.setIfInBounds_toArray, List.set_cons_zero, List.set_cons_succ])
  refine wpAnyR_take (i := 10) (v := ?_) (by simp only [List.getElem?_toArray, List.getElem?_cons_succ, List.getElem?_cons_zero]; rfl) (by kernel_rfl) (by kernel_rfl) (by kernel_rfl) (by first | exact fun _ _ _ h => h | exact fun _ _ _ h => by cases h.1) (Rws.grow _) (Or.inl ⟨by rfl, ?_⟩) hS ?_
  rotate_left
  · intro w' hS'
    simp only [Rws] at hS'
    go_simp
    refine ⟨?_, Below.refl _ _⟩
    rfl
  (try simp only [Act.put, List.setIfInBounds_toArray, List.set_cons_zero, List.set_cons_succ])
  refine wpAnyR_take (i := 11) (v := ?_) (by simp only [List.getElem?_toArray, List.getElem?_cons_succ, List.getElem?_cons_zero]; rfl) (by kernel_rfl) (by kernel_rfl) (by kernel_rfl) (by first | exact fun _ _ _ h => h | exact fun _ _ _ h => by cases h.1) (Rws.grow _) (Or.inl ⟨by rfl, ?_⟩) hS ?_
  rotate_left
  · intro w' hS'
    simp only [Rws] at hS'
    go_simp
    refine ⟨?_, Below.refl _ _⟩
    rfl
  (try simp only [Act.put, List.setIfInBounds_toArray, List.set_cons_zero, List.set_cons_succ])
  refine wpAnyR_take (i := 12) (v := ?_) (by simp only [List.getElem?_toArray, List.getElem?_cons_succ, List.getElem?_cons_zero]; rfl) (by kernel_rfl) (by kernel_rfl) (by kernel_rfl) (by first | exact fun _ _ _ h => h | exact fun _ _ _ h => by cases h.1) (Rws.grow _) (Or.inl ⟨by rfl, ?_⟩) hS ?_
  rotate_left
  · intro w' hS'
    simp only [Rws] at hS'
    go_simp
    refine ⟨?_, Below.refl _ _⟩
    rfl
  (try simp only [Act.put, List.setIfInBounds_toArray, List.set_cons_zero, List.set_cons_succ])
  refine wpAnyR_take (i := 13) (v := ?_) (by simp only [List.getElem?_toArray, List.getElem?_cons_succ, List.getElem?_cons_zero]; rfl) (by kernel_rfl) (by kernel_rfl) (by kernel_rfl) (by first | exact fun _ _ _ h => h | exact fun _ _ _ h => by cases h.1) (Rws.grow _) (Or.inl ⟨by rfl, ?_⟩) hS ?_
  rotate_left
  · intro w' hS'
    simp only [Rws] at hS'
    go_simp
    refine ⟨?_, Below.refl _ _⟩
    rfl
  (try simp only [Act.put, List.setIfInBounds_toArray, List.set_cons_zero, List.set_cons_succ])
  refine wpAnyR_take (i := 14) (v := ?_) (by simp only [List.getElem?_toArray, List.getElem?_cons_succ, List.getElem?_cons_zero]; rfl) (by kernel_rfl) (by kernel_rfl) (by kernel_rfl) (by first | exact fun _ _ _ h => h | exact fun _ _ _ h => by cases h.1) (Rws.grow _) (Or.inl ⟨by rfl, ?_⟩) hS ?_
  rotate_left
  · intro w' hS'
    simp only [Rws] at hS'
    go_simp
    refine ⟨?_, Below.refl _ _⟩
    rfl
  (try simp only [Act.put, List.setIfInBounds_toArray, List.set_cons_zero, List.set_cons_succ])
  refine wpAnyR_take (i := 15) (v := ?_) (by simp only [List.getElem?_toArray, List.getElem?_cons_succ, List.getElem?_cons_zero]; rfl) (by kernel_rfl) (by kernel_rfl) (by kernel_rfl) (by first | exact fun _ _ _ h => h | exact fun _ _ _ h => by cases h.1) (Rws.grow _) (Or.inl ⟨by rfl, ?_⟩) hS ?_
  rotate_left
  · intro w' hS'
    simp only [Rws] at hS'
    go_simp
    refine ⟨?_, Below.refl _ _⟩
    rfl
  (try simp only [Act.put, List.setIfInBounds_toArray, List.set_cons_zero, List.set_cons_succ])
  refine wpAnyR_take (i := 16) (v := undef) (by simp only [List.getElem?_toArray, List.getElem?_cons_succ, List.getElem?_cons_zero]; rfl) (by kernel_rfl) (by kernel_rfl) (by kernel_rfl) (by first | exact fun _ _ _ h => h | exact fun _ _ _ h => by cases h.1) (Rws.grow _) (Or.inr ⟨by rfl, by rfl⟩) hS ?_
  (try simp only [Act.put, List.setIfInBounds_toArray, List.set_cons_zero, List.set_cons_succ])
  refine wpAnyR_take (i := 17) (v := undef) (by simp only [List.getElem?_toArray, List.getElem?_cons_succ, List.getElem?_cons_zero]; rfl) (by kernel_rfl) (by kernel_rfl) (by kernel_rfl) (by first | exact fun _ _ _ h => h | exact fun _ _ _ h => by cases h.1) (Rws.grow _) (Or.inr ⟨by rfl, by rfl⟩) hS ?_
  (try simp only [Act.put, List.setIfInBounds_toArray, List.set_cons_zero, List.set_cons_succ])
  refine wpAnyR_take (i := 18) (v := undef) (by simp only [List.getElem?_toArray, List.getElem?_cons_succ, List.getElem?_cons_zero]; rfl) (by kernel_rfl) (by kernel_rfl) (by kernel_rfl) (by first | exact fun _ _ _ h => h | exact fun _ _ _ h => by cases h.1) (Rws.grow _) (Or.inr ⟨by rfl, by rfl⟩) hS ?_
  (try simp only [Act.put, List.setIfInBounds_toArray, List.set_cons_zero, List.set_cons_succ])
  refine wpAnyR_take (i := 19) (v := undef) (by simp only [List.getElem?_toArray, List.getElem?_cons_succ, List.getElem?_cons_zero]; rfl) (by kernel_rfl) (by kernel_rfl) (by kernel_rfl) (by first | exact fun _ _ _ h => h | exact fun _ _ _ h => by cases h.1) (Rws.grow _) (Or.inr ⟨by rfl, by rfl⟩) hS ?_
  (try simp only [Act.put, List.setIfInBounds_toArray, List.set_cons_zero, List.set_cons_succ])
  refine wpAnyR_take (i := 20) (v := undef) (by simp only [List.getElem?_toArray, List.getElem?_cons_succ, List.getElem?_cons_zero]; rfl) (by kernel_rfl) (by kernel_rfl) (by kernel_rfl) (by first | exact fun _ _ _ h => h | exact fun _ _ _ h => by cases h.1) (Rws.grow _) (Or.inr ⟨by rfl, by rfl⟩) hS ?_
  (try simp only [Act.put, List.setIfInBounds_toArray, List.set_cons_zero, List.set_cons_succ])
  refine wpAnyR_take (i := 21) (v := undef) (by simp only [List.getElem?_toArray, List.getElem?_cons_succ, List.getElem?_cons_zero]; rfl) (by kernel_rfl) (by kernel_rfl) (by kernel_rfl) (by first | exact fun _ _ _ h => h | exact fun _ _ _ h => by cases h.1) (Rws.grow _) (Or.inr ⟨by rfl, by rfl⟩) hS ?_
  (try simp only [Act.put, List.setIfInBounds_toArray, List.set_cons_zero, List.set_cons_succ])
  refine wpAnyR_take (i := 22) (v := undef) (by simp only [List.getElem?_toArray, List.getElem?_cons_succ, List.getElem?_cons_zero]; rfl) (by kernel_rfl) (by kernel_rfl) (by kernel_rfl) (by first | exact fun _ _ _ h => h | exact fun _ _ _ h => by cases h.1) (Rws.grow _) (Or.inr ⟨by rfl, by rfl⟩) hS ?_
  (try simp only [Act.put, List.setIfInBounds_toArray, List.set_cons_zero, List.set_cons_succ])
  refine wpAnyR_take (i := 23) (v := undef) (by simp only [List.getElem?_toArray, List.getElem?_cons_succ, List.getElem?_cons_zero]; rfl) (by kernel_rfl) (by kernel_rfl) (by kernel_rfl) (by first | exact fun _ _ _ h => h | exact fun _ _ _ h => by cases h.1) (Rws.grow _) (Or.inr ⟨by rfl, by rfl⟩) hS ?_
  (try simp only [Act.put, List.setIfInBounds_toArray, List.set_cons_zero, List.set_cons_succ])
  refine wpAnyR_take (i := 24) (v := undef) (by simp only [List.getElem?_toArray, List.getElem?_cons_succ, List.getElem?_cons_zero]; rfl) (by kernel_rfl) (by kernel_rfl) (by kernel_rfl) (by first | exact fun _ _ _ h => h | exact fun _ _ _ h => by cases h.1) (Rws.grow _) (Or.inr ⟨by rfl, by rfl⟩) hS ?_
  (try simp only [Act.put, List.setIfInBounds_toArray, List.set_cons_zero, List.set_cons_succ])
  refine wpAnyR_take (i := 25) (v := undef) (by simp only [List.getElem?_toArray, List.getElem?_cons_succ, List.getElem?_cons_zero]; rfl) (by kernel_rfl) (by kernel_rfl) (by kernel_rfl) (by first | exact fun _ _ _ h => h | exact fun _ _ _ h => by cases h.1) (Rws.grow _) (Or.inr ⟨by rfl, by rfl⟩) hS ?_
  (try simp only [Act.put, List.setIfInBounds_toArray, List.set_cons_zero, List.set_cons_succ])
  refine wpAnyR_take (i := 26) (v := undef) (by simp only [List.getElem?_toArray, List.getElem?_cons_succ, List.getElem?_cons_zero]; rfl) (by kernel_rfl) (by kernel_rfl) (by kernel_rfl) (by first | exact fun _ _ _ h => h | exact fun _ _ _ h => by cases h.1) (Rws.grow _) (Or.inr ⟨by rfl, by rfl⟩) hS ?_
  (try simp only [Act.put, List.setIfInBounds_toArray, List.set_cons_zero, List.set_cons_succ])
  refine wpAnyR_take (i := 27) (v := undef) (by simp only [List.getElem?_toArray, List.getElem?_cons_succ, List.getElem?_cons_zero]; rfl) (by kernel_rfl) (by kernel_rfl) (by kernel_rfl) (by first | exact fun _ _ _ h => h | exact fun _ _ _ h => by cases h.1) (Rws.grow _) (Or.inr ⟨by rfl, by rfl⟩) hS ?_
  (try simp only [Act.put, List.setIfInBounds_toArray, List.set_cons_zero, List.set_cons_succ])
  refine wpAnyR_take (i := 28) (v := undef) (by simp only [List.getElem?_toArray, List.getElem?_cons_succ, List.getElem?_cons_zero]; rfl) (by kernel_rfl) (by kernel_rfl) (by kernel_rfl) (by first | exact fun _ _ _ h => h | exact fun _ _ _ h => by cases h.1) (Rws.grow _) (Or.inr ⟨by rfl, by rfl⟩) hS ?_
  (try simp only [Act.put, List.setIfInBounds_toArray, List.set_cons_zero, List.set_cons_succ])
  refine wpAnyR_take (i := 29) (v := undef) (by simp only [List.getElem?_toArray, List.getElem?_cons_succ, List.getElem?_cons_zero]; rfl) (by kernel_rfl) (by kernel_rfl) (by kernel_rfl) (by first | exact fun _ _ _ h => h | exact fun _ _ _ h => by cases h.1) (Rws.grow _) (Or.inr ⟨by rfl, by rfl⟩) hS ?_
  (try simp only [Act.put, List.setIfInBounds_toArray, List.set_cons_zero, List.set_cons_succ])
  refine wpAnyR_take (i := 30) (v := undef) (by simp only [List.getElem?_toArray, List.getElem?_cons_succ, List.getElem?_cons_zero]; rfl) (by kernel_rfl) (by kernel_rfl) (by kernel_rfl) (by first | exact fun _ _ _ h => h | exact fun _ _ _ h => by cases h.1) (Rws.grow _) (Or.inr ⟨by rfl, by rfl⟩) hS ?_
  (try simp only [Act.put, List.setIfInBounds_toArray, List.set_cons_zero, List.set_cons_succ])
  refine wpAnyR_take (i := 31) (v := ?_) (by simp only [List.getElem?_toArray, List.getElem?_cons_succ, List.getElem?_cons_zero]; rfl) (by kernel_rfl) (by kernel_rfl) (by kernel_rfl) (by first | exact fun _ _ _ h => h | exact fun _ _ _ h => by cases h.1) (Rws.grow _) (Or.inl ⟨by rfl, ?_⟩) hS ?_
  rotate_left
  · intro w' hS'
    simp only [Rws] at hS'
    go_simp
    refine ⟨?_, Below.refl _ _⟩
    rfl
  (try simp only [Act.put, List.setIfInBounds_toArray, List.set_cons_zero, List.set_cons_succ])
  refine wpAnyR_take (i := 32) (v := ?_) (by simp only [List.getElem?_toArray, List.getElem?_cons_succ, List.getElem?_cons_zero]; rfl) (by kernel_rfl) (by kernel_rfl) (by kernel_rfl) (by first | exact fun _ _ _ h => h | exact fun _ _ _ h => by cases h.1) (Rws.grow _) (Or.inl ⟨by rfl, ?_⟩) hS ?_
  rotate_left
  · intro w' hS'
    simp only [Rws] at hS'
    go_simp
    refine ⟨?_, Below.refl _ _⟩
    rfl
  (try simp only [Act.put, List.setIfInBounds_toArray, List.set_cons_zero, List.set_cons_succ])
  refine wpAnyR_done (by kernel_rfl) (fun w2 b2 => ?_) _
  replace b2 : Below (w1).heap.size (w1) w2 := below_step (Below.drew (Below.refl _ _)) b2
  have z2 := b2.size
  have rS2 := (row_below b2 (by omega)).trans rS1
  have rK2 := (row_below b2 (by omega)).trans rK1
  have bb2 := bb1.trans (b2.mono (by omega))
  clear b2 rS1 rK1 bb1 hS
  go_wp2_with fail
  refine wp_region_beginR [(S, (u8s psk ++ (Value.bool true :: Value.int .i64 r :: Value.int .i64 k :: Value.int .i64 p :: Value.int .i64 d :: Value.int .i64 now :: Value.pointer none :: Value.pointer b :: Value.pointer c :: Value.pointer none :: Value.int .i64 asked :: Value.int .i64 made :: [Value.int .i64 last])).toArray), (w.heap.size, (u8s sec).toArray)] rfl (by simp only [Rws]; (repeat (first | exact trivial | refine ⟨(by first | assumption | (simp [go_sem, *]; done)), (by first | omega | (simp; done) | (simp; omega)), ?_⟩))) (fun hS => ?_)
  refine wpAnyR_take (i := 0) (v := ?_) (by simp only [List.getElem?_toArray, List.getElem?_cons_succ, List.getElem?_cons_zero]; rfl) (by kernel_rfl) (by kernel_rfl) (by kernel_rfl) (by first | exact fun _ _ _ h => h | exact fun _ _ _ h => by cases h.1) (Rws.grow _) (Or.inl ⟨by rfl, ?_⟩) hS ?_
  rotate_left
  · intro w' hS'
    simp only [Rws] at hS'
    go_simp
    refine ⟨?_, Below.refl _ _⟩
    rfl
  (try simp only [Act.put, List.setIfInBounds_toArray, List.set_cons_zero, List.set_cons_succ])
  refine wpAnyR_take (i := 1) (v := ?_) (by simp only [List.getElem?_toArray, List.getElem?_cons_succ, List.getElem?_cons_zero]; rfl) (by kernel_rfl) (by kernel_rfl) (by kernel_rfl) (by first | exact fun _ _ _ h => h | exact fun _ _ _ h => by cases h.1) (Rws.grow _) (Or.inl ⟨by rfl, ?_⟩) hS ?_
  rotate_left
  · intro w' hS'
    simp only [Rws] at hS'
    go_simp
    refine ⟨?_, Below.refl _ _⟩
    rfl
  (try simp only [Act.put, List.setIfInBounds_toArray, List.set_cons_zero, List.set_cons_succ])
  refine wpAnyR_take (i := 2) (v := ?_) (by simp only [List.getElem?_toArray, List.getElem?_cons_succ, List.getElem?_cons_zero]; rfl) (by kernel_rfl) (by kernel_rfl) (by kernel_rfl) (by first | exact fun _ _ _ h => h | exact fun _ _ _ h => by cases h.1) (Rws.grow _) (Or.inl ⟨by rfl, ?_⟩) hS ?_
  rotate_left
  · intro w' hS'
    simp only [Rws] at hS'
    go_simp
    refine ⟨?_, Below.refl _ _⟩
    rfl
  (try simp only [Act.put, List.setIfInBounds_toArray, List.set_cons_zero, List.set_cons_succ])
  refine wpAnyR_take (i := 3) (v := ?_) (by simp only [List.getElem?_toArray, List.getElem?_cons_succ, List.getElem?_cons_zero]; rfl) (by kernel_rfl) (by kernel_rfl) (by kernel_rfl) (by first | exact fun _ _ _ h => h | exact fun _ _ _ h => by cases h.1) (Rws.grow _) (Or.inl ⟨by rfl, ?_⟩) hS ?_
  rotate_left
  · intro w' hS'
    simp only [Rws] at hS'
    go_simp
    refine ⟨?_, Below.refl _ _⟩
    rfl
  (try simp only [Act.put, List.setIfInBounds_toArray, List.set_cons_zero, List.set_cons_succ])
  refine wpAnyR_take (i := 4) (v := ?_) (by simp only [List.getElem?_toArray, List.getElem?_cons_succ, List.getElem?_cons_zero]; rfl) (by kernel_rfl) (by kernel_rfl) (by kernel_rfl) (by first | exact fun _ _ _ h => h | exact fun _ _ _ h => by cases h.1) (Rws.grow _) (Or.inl ⟨by rfl, ?_⟩) hS ?_
  rotate_left
  · intro w' hS'
    simp only [Rws] at hS'
    go_simp
    refine ⟨?_, Below.refl _ _⟩
    rfl
  (try simp only [Act.put, List.setIfInBounds_toArray, List.set_cons_zero, List.set_cons_succ])
  refine wpAnyR_all (rs := [5]) (by kernel_rfl) (by simp) (Rws.grow _) hS (fun u1 hu1 hSW => ?_)
  intro i hi
  obtain rfl := List.mem_singleton.1 hi
  refine wpOp_step rfl (fun K hK => ?_)
  simp only [Rws] at hSW
  clear hi hS
  go_simp
  have zu1 : w2.heap.size ≤ u1.heap.size := hu1.size
  have cu1 : Below w2.heap.size w2 u1 := Below.trans (Below.drew (Below.refl _ _)) hu1
  refine (HG.out _).mono ?_
  rintro e w3 ⟨T, rfl, gT, zT, rT, b3⟩
  have z3 := b3.size
  have b23 : Below w2.heap.size w2 w3 := cu1.trans (b3.mono zu1)
  have hS : Rws [(S, (u8s psk ++ (Value.bool true :: Value.int .i64 r :: Value.int .i64 k :: Value.int .i64 p :: Value.int .i64 d :: Value.int .i64 now :: Value.pointer none :: Value.pointer b :: Value.pointer c :: Value.pointer none :: Value.int .i64 asked :: Value.int .i64 made :: [Value.int .i64 last])).toArray), (w.heap.size, (u8s sec).toArray)] w3 := ⟨(row_below b23 (by omega)).trans rS2, by omega, (row_below b23 (by omega)).trans rK2, by omega, trivial⟩
  refine hK _ _ ⟨hS, ?_⟩
  have rS3 := hS.1
  clear hK K hSW hu1 b3
  (try simp only [Act.put, List.setIfInBounds_toArray, List.set_cons_zero, List.set_cons_succ])
  refine wpAnyR_take (i := 6) (v := ?_) (by simp only [List.getElem?_toArray, List.getElem?_cons_succ, List.getElem?_cons_zero]; rfl) (by kernel_rfl) (by kernel_rfl) (by kernel_rfl) (by first | exact fun _ _ _ h => h | exact fun _ _ _ h => by cases h.1) (Rws.grow _) (Or.inl ⟨by rfl, ?_⟩) hS ?_
  rotate_left
  · intro w' hS'
    simp only [Rws] at hS'
    go_simp
    refine ⟨?_, Below.refl _ _⟩
    rfl
  (try simp only [Act.put, List.setIfInBounds_toArray, List.set_cons_zero, List.set_cons_succ])
  refine wpAnyR_take (i := 7) (v := ?_) (by simp only [List.getElem?_toArray, List.getElem?_cons_succ, List.getElem?_cons_zero]; rfl) (by kernel_rfl) (by kernel_rfl) (by kernel_rfl) (by first | exact fun _ _ _ h => h | exact fun _ _ _ h => by cases h.1) (Rws.grow _) (Or.inl ⟨by rfl, ?_⟩) hS ?_
  rotate_left
  · intro w' hS'
    simp only [Rws] at hS'
    go_simp
    refine ⟨?_, Below.refl _ _⟩
    rfl
  (try simp only [Act.put, List.setIfInBounds_toArray, List.set_cons_zero, List.set_cons_succ])
  refine wpAnyR_take (i := 8) (v := ?_) (by simp only [List.getElem?_toArray, List.getElem?_cons_succ, List.getElem?_cons_zero]; rfl) (by kernel_rfl) (by kernel_rfl) (by kernel_rfl) (by first | exact fun _ _ _ h => h | exact fun _ _ _ h => by cases h.1) (Rws.grow _) (Or.inl ⟨by rfl, ?_⟩) hS ?_
  rotate_left
  · intro w' hS'
    simp only [Rws] at hS'
    go_simp
    refine ⟨?_, Below.refl _ _⟩
    rfl
  (try simp only [Act.put, List.setIfInBounds_toArray, List.set_cons_zero, List.set_cons_succ])
  refine wpAnyR_take (i := 9) (v := ?_) (by simp only [List.getElem?_toArray, List.getElem?_cons_succ, List.getElem?_cons_zero]; rfl) (by kernel_rfl) (by kernel_rfl) (by kernel_rfl) (by first | exact fun _ _ _ h => h | exact fun _ _ _ h => by cases h.1) (Rws.grow _) (Or.inl ⟨by rfl, ?_⟩) hS ?_
  rotate_left
  · intro w' hS'
    simp only [Rws] at hS'
    go_simp
    refine ⟨?_, Below.refl _ _⟩
    rfl
  (try simp only [Act.put, List.setIfInBounds_toArray, List.set_cons_zero, List.set_cons_succ])
  refine wpAnyR_take (i := 10) (v := ?_) (by simp only [List.getElem?_toArray, List.getElem?_cons_succ, List.getElem?_cons_zero]; rfl) (by kernel_rfl) (by kernel_rfl) (by kernel_rfl) (by first | exact fun _ _ _ h => h | exact fun _ _ _ h => by cases h.1) (Rws.grow _) (Or.inl ⟨by rfl, ?_⟩) hS ?_
  rotate_left
  · intro w' hS'
    simp only [Rws] at hS'
    go_simp
    refine ⟨?_, Below.refl _ _⟩
    rfl
  (try simp only [Act.put, List.setIfInBounds_toArray, List.set_cons_zero, List.set_cons_succ])
  refine wpAnyR_done (by kernel_rfl) (fun w4 b4 => ?_) _
  have z4 := b4.size
  have rS4 := (row_below b4 (by omega)).trans rS3
  have rT4 := (row_below b4 zT).trans rT
  have bb4 := bb2.trans ((b23.mono (by omega)).trans (b4.mono (by omega)))
  clear b4 b23 cu1 rT rS3 rS2 rK2 bb2 hS
  obtain ⟨W5, hW5⟩ : ∃ v, w4.setRow S (u8s psk ++ [Value.bool true, Value.int .i64 r, Value.int .i64 k, Value.int .i64 p, Value.int .i64 d, Value.int .i64 now, Value.pointer none, Value.pointer b, Value.pointer c, Value.pointer (some ⟨T, 0, none⟩), Value.int .i64 now, Value.int .i64 made, Value.int .i64 last]).toArray = v := ⟨_, rfl⟩
  have r5 : row W5 S = (u8s psk ++ [Value.bool true, Value.int .i64 r, Value.int .i64 k, Value.int .i64 p, Value.int .i64 d, Value.int .i64 now, Value.pointer none, Value.pointer b, Value.pointer c, Value.pointer (some ⟨T, 0, none⟩), Value.int .i64 now, Value.int .i64 made, Value.int .i64 last]).toArray := by rw [← hW5]; exact row_setRow_same (by rw [rS4]; simp) (by rw [rS4]; simp)
  have b5 : BelowBut w.heap.size S w W5 := by rw [← hW5]; exact (BelowBut.of bb4).trans (BelowBut.set _ _)
  have rT5 : row W5 T = H.cells.toArray := by rw [← hW5, row_setRow_other _ _ _ (by omega)]; exact rT4
  have z5 : W5.heap.size = w4.heap.size := by rw [← hW5]; simp
  go_wp2_with fail
  (try rw [hW5])
  clear hW5 rS4 rT4 bb4
  refine (HP.out _).mono ?_
  rintro e w6 ⟨rfl, b6⟩
  have z6 := b6.size
  have r6 := (row_below b6 (by omega)).trans r5
  have rT6 := (row_below b6 (by omega)).trans rT5
  have c6 := b5.trans ((BelowBut.of b6).mono (by omega))
  clear b5 b6 r5 rT5
  go_wp2_with fail
  go_ret
  refine ⟨T, w6.heap.size, by simp, row_alloc_at _ _ _ rfl, by omega, by rw [alloc_sizeW]; omega, (row_alloc_past _ _ (by omega)).trans rT6, by omega, by rw [alloc_sizeW]; omega, by omega, (row_alloc_past _ _ (by omega)).trans r6, c6.trans (BelowBut.of (Below.alloc (Below.refl _ _) (by omega) _))⟩
end Go.Proofs.YtakkicppgkmokaaGreat
end

/- Contracts of package link: an end without a session: datagrams and ticks. -/
section
set_option linter.unusedSimpArgs false
set_option linter.unusedVariables false
set_option maxRecDepth 4000
namespace Go.Proofs.YtakkicppgkmokaaGreat
open Go.RowKit
attribute [local irreducible] greetL hailT
theorem run_index_all (x y z : Option Addr) (j : Nat) (q : Option Addr) (hj : [x, y, z][j]? = some q) (w : World) :
    (Instr.index 92 (.agg #[.pointer x, .pointer y, .pointer z]) (.int .i64 j)).run Tryz.prog w = .ok (.pointer q) w := by
  have hk2 : j < 3 := by
    have := List.getElem?_eq_some_iff.1 hj
    obtain ⟨h, _⟩ := this
    simpa using h
  have hinfo : (Tryz.prog.info? 91).map (fun i => i.size) = some 1 := by kernel_rfl
  obtain ⟨inf, hi, hsz⟩ := Option.map_eq_some_iff.1 hinfo
  have hg : [Value.pointer x, Value.pointer y, Value.pointer z][j]? = some (.pointer q) := by
    match j, hj with
    | 0, h => simp at h; simp [h]
    | 1, h => simp at h; simp [h]
    | 2, h => simp at h; simp [h]
    | (n + 3), h => simp at h
  simp [Instr.index, run_underlying Tryz.underlying92, run_underlying Tryz.underlying91, asIntOf, isAgg, hk2, sizeOf, typeInfo, hi, hsz, part, hg, go_sem]
  exact (List.getElem?_eq_some_iff.1 hg).2
section
variable (psk sec : List UInt8) (r k p d now asked made last : Int) (S : Nat) (w : World) (hp : psk.length = 32) (hS : row w S = (⟨psk, true, r, k, p, d, now, none, none, none, none, asked, made, last⟩ : LinkT).cells.toArray)
include hp hS
set_option maxRecDepth 20000 in
set_option maxHeartbeats 2000000 in
theorem up_fresh :
    Calls Tryz.prog 15 #[.pointer (some ⟨S, 0, none⟩)] w fun e w' => e = .returned (.bool false) ∧ Below w.heap.size w w' := by
  have zS : S < w.heap.size := lt_of_row (i := 0) (by rw [hS]; simp [LinkT.cells, hp])
  unfold LinkT.cells at hS
  simp only at hS
  go_enter Tryz.func15, Tryz.ntmps15
  go_wp2_with fail
  go_ret
  exact ⟨rfl, (by (repeat (first | exact Below.refl _ _ | refine Below.alloc ?_ (by first | (simp; done) | (simp; omega) | omega) _ | refine Below.drew ?_ | refine Below.setRow ?_ (by first | (simp; done) | (simp; omega) | omega) _ | refine Below.setCell ?_ (by first | (simp; done) | (simp; omega) | omega) _)))⟩
set_option maxRecDepth 20000 in
set_option maxHeartbeats 2000000 in
theorem greeted_fresh (s : List UInt8) :
    Calls Tryz.prog 51 #[.pointer (some ⟨S, 0, none⟩), .string ⟨s.toArray⟩, .agg (u8s sec).toArray] w fun e w' => e = .returned (.tuple #[.slice none 0 0, .int .i64 7]) ∧ Below w.heap.size w w' := by
  have zS : S < w.heap.size := lt_of_row (i := 0) (by rw [hS]; simp [LinkT.cells, hp])
  unfold LinkT.cells at hS
  simp only at hS
  go_enter Tryz.func51, Tryz.ntmps51
  go_wp2_with fail
  go_ret2
  exact ⟨rfl, (by (repeat (first | exact Below.refl _ _ | refine Below.alloc ?_ (by first | (simp; done) | (simp; omega) | omega) _ | refine Below.drew ?_ | refine Below.setRow ?_ (by first | (simp; done) | (simp; omega) | omega) _ | refine Below.setCell ?_ (by first | (simp; done) | (simp; omega) | omega) _)))⟩
set_option maxRecDepth 20000 in
set_option maxHeartbeats 2000000 in
theorem answered_fresh (s : List UInt8) :
    Calls Tryz.prog 52 #[.pointer (some ⟨S, 0, none⟩), .string ⟨s.toArray⟩] w fun e w' => e = .returned (.tuple #[.slice none 0 0, .int .i64 7]) ∧ Below w.heap.size w w' := by
  have zS : S < w.heap.size := lt_of_row (i := 0) (by rw [hS]; simp [LinkT.cells, hp])
  unfold LinkT.cells at hS
  simp only at hS
  go_enter Tryz.func52, Tryz.ntmps52
  go_wp2_with fail
  go_ret2
  exact ⟨rfl, (by (repeat (first | exact Below.refl _ _ | refine Below.alloc ?_ (by first | (simp; done) | (simp; omega) | omega) _ | refine Below.drew ?_ | refine Below.setRow ?_ (by first | (simp; done) | (simp; omega) | omega) _ | refine Below.setCell ?_ (by first | (simp; done) | (simp; omega) | omega) _)))⟩
set_option maxRecDepth 20000 in
set_option maxHeartbeats 2000000 in
theorem opened_fresh (kd : Int) (n : Nat) (s : List UInt8) :
    Calls Tryz.prog 53 #[.pointer (some ⟨S, 0, none⟩), .agg (gramV kd n s).toArray] w fun e w' => e = .returned (.tuple #[.string ⟨#[]⟩, .int .i64 7]) ∧ Below w.heap.size w w' := by
  have zS : S < w.heap.size := lt_of_row (i := 0) (by rw [hS]; simp [LinkT.cells, hp])
  unfold LinkT.cells at hS
  simp only at hS
  go_enter Tryz.func53, Tryz.ntmps53
  unfold gramV
  obtain ⟨W, hW⟩ : ∃ v, w.alloc (.cells [Value.int .i64 kd, Value.int .u64 (n : Int), Value.string ⟨s.toArray⟩].toArray 68) = v := ⟨_, rfl⟩
  have bW : Below w.heap.size w W := by
    rw [← hW]
    (repeat (first | exact Below.refl _ _ | refine Below.alloc ?_ (by first | (simp; done) | (simp; omega) | omega) _ | refine Below.drew ?_ | refine Below.setRow ?_ (by first | (simp; done) | (simp; omega) | omega) _ | refine Below.setCell ?_ (by first | (simp; done) | (simp; omega) | omega) _))
  have rS := (row_below bW (by omega)).trans hS
  have hI0 := run_index_all none none none 0 none rfl W
  have hI1 := run_index_all none none none 1 none rfl W
  have hI2 := run_index_all none none none 2 none rfl W
  simp only [show ((0 : Nat) : Int) = 0 from rfl, show ((1 : Nat) : Int) = 1 from rfl, show ((2 : Nat) : Int) = 2 from rfl] at hI0 hI1 hI2
  go_wp2_with fail
  clear hW
  refine wp_loop_rounds 4 ?_
  rw [rounds_succ]
  go_wp2_with fail
  rw [rounds_succ]
  go_wp2_with fail
  rw [rounds_succ]
  go_wp2_with fail
  rw [rounds_succ]
  go_wp2_with fail
  go_ret2
  exact ⟨rfl, bW⟩
set_option maxRecDepth 20000 in
set_option maxHeartbeats 2000000 in
theorem takeL_bad (s : List UInt8) (kd : Int) (n : Nat) (body : List UInt8) (er : Int) (he : er ≠ 0) (HP : ∀ w, Calls Tryz.prog 24 #[.string ⟨s.toArray⟩] w fun e w1 => e = .returned (.tuple #[.agg (gramV kd n body).toArray, .int .i64 er]) ∧ Below w.heap.size w w1) :
    Calls Tryz.prog 21 #[.pointer (some ⟨S, 0, none⟩), .string ⟨s.toArray⟩, .agg (u8s sec).toArray] w fun e w' => e = .returned (.tuple #[.string ⟨#[]⟩, .slice none 0 0, .int .i64 er]) ∧ Below w.heap.size w w' := by
  have zS : S < w.heap.size := lt_of_row (i := 0) (by rw [hS]; simp [LinkT.cells, hp])
  unfold LinkT.cells at hS
  simp only at hS
  go_enter Tryz.func21, Tryz.ntmps21
  have HP2 := Lib.hid HP
  clear HP
  go_wp2_with fail
  refine (HP2.out _).mono ?_
  rintro e w1 ⟨rfl, b1⟩
  have bb1 : Below w.heap.size w w1 := Below.trans (by (repeat (first | exact Below.refl _ _ | refine Below.alloc ?_ (by first | (simp; done) | (simp; omega) | omega) _ | refine Below.drew ?_ | refine Below.setRow ?_ (by first | (simp; done) | (simp; omega) | omega) _ | refine Below.setCell ?_ (by first | (simp; done) | (simp; omega) | omega) _))) (b1.mono (by simp))
  have z1 := bb1.size
  unfold gramV
  go_wp2_with fail
  go_ret3
  exact ⟨rfl, Below.alloc bb1 (by omega) _⟩
set_option maxRecDepth 20000 in
set_option maxHeartbeats 2000000 in
theorem takeL_1 (hs : sec.length = 32) (s : List UInt8) (n : Nat) (body : List UInt8) (HP : ∀ w, Calls Tryz.prog 24 #[.string ⟨s.toArray⟩] w fun e w1 => e = .returned (.tuple #[.agg (gramV 1 n body).toArray, .int .i64 0]) ∧ Below w.heap.size w w1) :
    Calls Tryz.prog 21 #[.pointer (some ⟨S, 0, none⟩), .string ⟨s.toArray⟩, .agg (u8s sec).toArray] w fun e w' => e = .returned (.tuple #[.string ⟨#[]⟩, .slice none 0 0, .int .i64 7]) ∧ Below w.heap.size w w' := by
  have zS : S < w.heap.size := lt_of_row (i := 0) (by rw [hS]; simp [LinkT.cells, hp])
  have hS0 := Lib.hid hS
  unfold LinkT.cells at hS
  simp only at hS
  go_enter Tryz.func21, Tryz.ntmps21
  have HP2 := Lib.hid HP
  clear HP
  go_wp2_with fail
  refine (HP2.out _).mono ?_
  rintro e w1 ⟨rfl, b1⟩
  have bb1 : Below w.heap.size w w1 := Below.trans (by (repeat (first | exact Below.refl _ _ | refine Below.alloc ?_ (by first | (simp; done) | (simp; omega) | omega) _ | refine Below.drew ?_ | refine Below.setRow ?_ (by first | (simp; done) | (simp; omega) | omega) _ | refine Below.setCell ?_ (by first | (simp; done) | (simp; omega) | omega) _))) (b1.mono (by simp))
  have z1 := bb1.size
  have rS1 := (row_below bb1 zS).trans hS0.out
  have z2 := b1.size
  rw [alloc_sizeW] at z2
  obtain ⟨W, hW⟩ : ∃ v, w1.alloc (.cells #[Value.int .i64 1, Value.int .u64 (n : Int), Value.string ⟨body.toArray⟩] 68) = v := ⟨_, rfl⟩
  have bW : Below w1.heap.size w1 W := by
    rw [← hW]
    (repeat (first | exact Below.refl _ _ | refine Below.alloc ?_ (by first | (simp; done) | (simp; omega) | omega) _ | refine Below.drew ?_ | refine Below.setRow ?_ (by first | (simp; done) | (simp; omega) | omega) _ | refine Below.setCell ?_ (by first | (simp; done) | (simp; omega) | omega) _))
  have zW : W.heap.size = w1.heap.size + 1 := by rw [← hW]; simp
  have rG : row W w1.heap.size = #[Value.int .i64 1, Value.int .u64 (n : Int), Value.string ⟨body.toArray⟩] := by rw [← hW]; simp [go_sem]
  have rSe : row W w.heap.size = (u8s sec).toArray := by rw [row_below bW (by omega), row_below b1 (by simp only [alloc_sizeW]; omega)]; simp [go_sem]
  have rS2 := (row_below bW (by omega)).trans rS1
  have bbW := bb1.trans (bW.mono (by omega))
  unfold gramV
  go_wp2_with fail
  clear hW bW b1 rS1 hS
  refine (greeted_fresh psk sec r k p d now asked made last S _ hp rS2 body).mono ?_
  rintro e w2 ⟨rfl, b2⟩
  go_wp2_with fail
  go_ret3
  exact ⟨rfl, bbW.trans (b2.mono (by omega))⟩
set_option maxRecDepth 20000 in
set_option maxHeartbeats 2000000 in
theorem takeL_2 (hs : sec.length = 32) (s : List UInt8) (n : Nat) (body : List UInt8) (HP : ∀ w, Calls Tryz.prog 24 #[.string ⟨s.toArray⟩] w fun e w1 => e = .returned (.tuple #[.agg (gramV 2 n body).toArray, .int .i64 0]) ∧ Below w.heap.size w w1) :
    Calls Tryz.prog 21 #[.pointer (some ⟨S, 0, none⟩), .string ⟨s.toArray⟩, .agg (u8s sec).toArray] w fun e w' => e = .returned (.tuple #[.string ⟨#[]⟩, .slice none 0 0, .int .i64 7]) ∧ Below w.heap.size w w' := by
  have zS : S < w.heap.size := lt_of_row (i := 0) (by rw [hS]; simp [LinkT.cells, hp])
  have hS0 := Lib.hid hS
  unfold LinkT.cells at hS
  simp only at hS
  go_enter Tryz.func21, Tryz.ntmps21
  have HP2 := Lib.hid HP
  clear HP
  go_wp2_with fail
  refine (HP2.out _).mono ?_
  rintro e w1 ⟨rfl, b1⟩
  have bb1 : Below w.heap.size w w1 := Below.trans (by (repeat (first | exact Below.refl _ _ | refine Below.alloc ?_ (by first | (simp; done) | (simp; omega) | omega) _ | refine Below.drew ?_ | refine Below.setRow ?_ (by first | (simp; done) | (simp; omega) | omega) _ | refine Below.setCell ?_ (by first | (simp; done) | (simp; omega) | omega) _))) (b1.mono (by simp))
  have z1 := bb1.size
  have rS1 := (row_below bb1 zS).trans hS0.out
  have z2 := b1.size
  rw [alloc_sizeW] at z2
  obtain ⟨W, hW⟩ : ∃ v, w1.alloc (.cells #[Value.int .i64 2, Value.int .u64 (n : Int), Value.string ⟨body.toArray⟩] 68) = v := ⟨_, rfl⟩
  have bW : Below w1.heap.size w1 W := by
    rw [← hW]
    (repeat (first | exact Below.refl _ _ | refine Below.alloc ?_ (by first | (simp; done) | (simp; omega) | omega) _ | refine Below.drew ?_ | refine Below.setRow ?_ (by first | (simp; done) | (simp; omega) | omega) _ | refine Below.setCell ?_ (by first | (simp; done) | (simp; omega) | omega) _))
  have zW : W.heap.size = w1.heap.size + 1 := by rw [← hW]; simp
  have rG : row W w1.heap.size = #[Value.int .i64 2, Value.int .u64 (n : Int), Value.string ⟨body.toArray⟩] := by rw [← hW]; simp [go_sem]
  have rSe : row W w.heap.size = (u8s sec).toArray := by rw [row_below bW (by omega), row_below b1 (by simp only [alloc_sizeW]; omega)]; simp [go_sem]
  have rS2 := (row_below bW (by omega)).trans rS1
  have bbW := bb1.trans (bW.mono (by omega))
  unfold gramV
  go_wp2_with fail
  clear hW bW b1 rS1 hS
  refine (answered_fresh psk r k p d now asked made last S _ hp rS2 body).mono ?_
  rintro e w2 ⟨rfl, b2⟩
  go_wp2_with fail
  go_ret3
  exact ⟨rfl, bbW.trans (b2.mono (by omega))⟩
set_option maxRecDepth 20000 in
set_option maxHeartbeats 2000000 in
theorem takeL_3 (hs : sec.length = 32) (s : List UInt8) (n : Nat) (body : List UInt8) (HP : ∀ w, Calls Tryz.prog 24 #[.string ⟨s.toArray⟩] w fun e w1 => e = .returned (.tuple #[.agg (gramV 3 n body).toArray, .int .i64 0]) ∧ Below w.heap.size w w1) :
    Calls Tryz.prog 21 #[.pointer (some ⟨S, 0, none⟩), .string ⟨s.toArray⟩, .agg (u8s sec).toArray] w fun e w' => e = .returned (.tuple #[.string ⟨#[]⟩, .slice none 0 0, .int .i64 7]) ∧ Below w.heap.size w w' := by
  have zS : S < w.heap.size := lt_of_row (i := 0) (by rw [hS]; simp [LinkT.cells, hp])
  have hS0 := Lib.hid hS
  unfold LinkT.cells at hS
  simp only at hS
  go_enter Tryz.func21, Tryz.ntmps21
  have HP2 := Lib.hid HP
  clear HP
  go_wp2_with fail
  refine (HP2.out _).mono ?_
  rintro e w1 ⟨rfl, b1⟩
  have bb1 : Below w.heap.size w w1 := Below.trans (by (repeat (first | exact Below.refl _ _ | refine Below.alloc ?_ (by first | (simp; done) | (simp; omega) | omega) _ | refine Below.drew ?_ | refine Below.setRow ?_ (by first | (simp; done) | (simp; omega) | omega) _ | refine Below.setCell ?_ (by first | (simp; done) | (simp; omega) | omega) _))) (b1.mono (by simp))
  have z1 := bb1.size
  have rS1 := (row_below bb1 zS).trans hS0.out
  have z2 := b1.size
  rw [alloc_sizeW] at z2
  obtain ⟨W, hW⟩ : ∃ v, w1.alloc (.cells #[Value.int .i64 3, Value.int .u64 (n : Int), Value.string ⟨body.toArray⟩] 68) = v := ⟨_, rfl⟩
  have bW : Below w1.heap.size w1 W := by
    rw [← hW]
    (repeat (first | exact Below.refl _ _ | refine Below.alloc ?_ (by first | (simp; done) | (simp; omega) | omega) _ | refine Below.drew ?_ | refine Below.setRow ?_ (by first | (simp; done) | (simp; omega) | omega) _ | refine Below.setCell ?_ (by first | (simp; done) | (simp; omega) | omega) _))
  have zW : W.heap.size = w1.heap.size + 1 := by rw [← hW]; simp
  have rG : row W w1.heap.size = #[Value.int .i64 3, Value.int .u64 (n : Int), Value.string ⟨body.toArray⟩] := by rw [← hW]; simp [go_sem]
  have rSe : row W w.heap.size = (u8s sec).toArray := by rw [row_below bW (by omega), row_below b1 (by simp only [alloc_sizeW]; omega)]; simp [go_sem]
  have rS2 := (row_below bW (by omega)).trans rS1
  have bbW := bb1.trans (bW.mono (by omega))
  unfold gramV
  go_wp2_with fail
  clear hW bW b1 rS1 hS
  refine (opened_fresh psk r k p d now asked made last S _ hp rS2 3 n body).mono ?_
  rintro e w2 ⟨rfl, b2⟩
  go_wp2_with fail
  go_ret3
  exact ⟨rfl, bbW.trans (b2.mono (by omega))⟩
end
end Go.Proofs.YtakkicppgkmokaaGreat
end

/- Contracts of package link: a tick of an end that greets. -/
section
set_option linter.unusedSimpArgs false
set_option linter.unusedVariables false
set_option maxRecDepth 4000
namespace Go.Proofs.YtakkicppgkmokaaGreat
open Go.RowKit
attribute [local irreducible] greetL hailT
set_option maxRecDepth 20000 in
set_option maxHeartbeats 2000000 in
theorem ltick_go (psk sec : List UInt8) (r k p d now asked made last : Int) (b c : Option Addr) (S : Nat) (w : World) (hp : psk.length = 32) (hs : sec.length = 32) (hn : 0 ≤ now ∧ now ≤ 100000000) (hS : row w S = (⟨psk, true, r, k, p, d, now, none, b, c, none, asked, made, last⟩ : LinkT).cells.toArray) :
    Calls Tryz.prog 16 #[.pointer (some ⟨S, 0, none⟩), .agg (u8s sec).toArray] w fun e w' => ∃ T g, e = .returned (.slice (some ⟨g, 0, none⟩) 1 1) ∧ row w' g = #[.string ⟨(1 :: greetL psk sec).toArray⟩] ∧ w.heap.size ≤ g ∧ g < w'.heap.size ∧ row w' T = (hailT psk sec).cells.toArray ∧ w.heap.size ≤ T ∧ T < w'.heap.size ∧ T ≠ g ∧
      row w' S = (⟨psk, true, r, k, p, d, now + 1, none, b, c, some ⟨T, 0, none⟩, now + 1, made, last⟩ : LinkT).cells.toArray ∧ BelowBut w.heap.size S w w' := by
  have zS : S < w.heap.size := lt_of_row (i := 0) (by rw [hS]; simp [LinkT.cells, hp])
  have HG := Lib.hid (fun w hr => lgreet_go psk sec r k p d (now + 1) asked made last b c S w hp hs hr)
  unfold LinkT.cells at hS HG ⊢
  simp only at hS HG ⊢
  have hw1 : wrap64 (now + 1) = now + 1 := by unfold wrap64; omega
  have hw2 : IntKind.i64.wrap (now + 1) = now + 1 := by rw [IntKind.wrap_i64]; omega
  go_enter Tryz.func16, Tryz.ntmps16
  obtain ⟨W, hW⟩ : ∃ v, w.alloc (.cells (u8s sec).toArray 23) = v := ⟨_, rfl⟩
  have rK : row W w.heap.size = (u8s sec).toArray := by rw [← hW]; simp [go_sem]
  have zW : W.heap.size = w.heap.size + 1 := by rw [← hW]; simp
  have bW : Below w.heap.size w W := by
    rw [← hW]
    (repeat (first | exact Below.refl _ _ | refine Below.alloc ?_ (by first | (simp; done) | (simp; omega) | omega) _ | refine Below.drew ?_ | refine Below.setRow ?_ (by first | (simp; done) | (simp; omega) | omega) _ | refine Below.setCell ?_ (by first | (simp; done) | (simp; omega) | omega) _))
  have rS := (row_below bW (by omega)).trans hS
  have hn0 := hn.1
  have hn1 := hn.2
  clear hn
  go_wp2_with fail
  obtain ⟨W1, hW1⟩ : ∃ v, W.setRow S (u8s psk ++ (Value.bool true :: Value.int .i64 r :: Value.int .i64 k :: Value.int .i64 p :: Value.int .i64 d :: Value.int .i64 (now + 1) :: Value.pointer none :: Value.pointer b :: Value.pointer c :: Value.pointer none :: Value.int .i64 asked :: Value.int .i64 made :: [Value.int .i64 last])).toArray = v := ⟨_, rfl⟩
  have r1 : row W1 S = (u8s psk ++ (Value.bool true :: Value.int .i64 r :: Value.int .i64 k :: Value.int .i64 p :: Value.int .i64 d :: Value.int .i64 (now + 1) :: Value.pointer none :: Value.pointer b :: Value.pointer c :: Value.pointer none :: Value.int .i64 asked :: Value.int .i64 made :: [Value.int .i64 last])).toArray := by rw [← hW1]; exact row_setRow_same (by rw [rS]; simp) (by rw [rS]; simp)
  have rK1 : row W1 w.heap.size = (u8s sec).toArray := by rw [← hW1, row_setRow_other _ _ _ (by omega)]; exact rK
  have z1 : W1.heap.size = W.heap.size := by rw [← hW1]; simp
  have b1 : BelowBut w.heap.size S w W1 := by rw [← hW1]; exact (BelowBut.of bW).trans (BelowBut.set _ _)
  (try rw [hW1])
  clear hW1 rS rK hW bW hS
  refine wp_region_beginR [(S, (u8s psk ++ (Value.bool true :: Value.int .i64 r :: Value.int .i64 k :: Value.int .i64 p :: Value.int .i64 d :: Value.int .i64 (now + 1) :: Value.pointer none :: Value.pointer b :: Value.pointer c :: Value.pointer none :: Value.int .i64 asked :: Value.int .i64 made :: [Value.int .i64 last])).toArray)] rfl (by simp only [Rws]; (repeat (first | exact trivial | refine ⟨(by first | assumption | (simp [go_sem, *]; done)), (by first | omega | (simp; done) | (simp; omega)), ?_⟩))) (fun hS => ?_)
  refine wpAnyR_take (i := 0) (v := ?_) (by simp only [List.getElem?_toArray, List.getElem?_cons_succ, List.getElem?_cons_zero]; rfl) (by kernel_rfl) (by kernel_rfl) (by kernel_rfl) (by first | exact fun _ _ _ h => h | exact fun _ _ _ h => by cases h.1) (Rws.grow _) (Or.inl ⟨by rfl, ?_⟩) hS ?_
  rotate_left
  · intro w' hS'
    simp only [Rws] at hS'
    go_simp
    refine ⟨?_, Below.refl _ _⟩
    rfl
  (try simp only [Act.put, List.setIfInBounds_toArray, List.set_cons_zero, List.set_cons_succ])
  refine wpAnyR_take (i := 1) (v := ?_) (by simp only [List.getElem?_toArray, List.getElem?_cons_succ, List.getElem?_cons_zero]; rfl) (by kernel_rfl) (by kernel_rfl) (by kernel_rfl) (by first | exact fun _ _ _ h => h | exact fun _ _ _ h => by cases h.1) (Rws.grow _) (Or.inl ⟨by rfl, ?_⟩) hS ?_
  rotate_left
  · intro w' hS'
    simp only [Rws] at hS'
    go_simp
    refine ⟨?_, Below.refl _ _⟩
    rfl
  (try simp only [Act.put, List.setIfInBounds_toArray, List.set_cons_zero, List.set_cons_succ])
  refine wpAnyR_take (i := 2) (v := ?_) (by simp only [List.getElem?_toArray, List.getElem?_cons_succ, List.getElem?_cons_zero]; rfl) (by kernel_rfl) (by kernel_rfl) (by kernel_rfl) (by first | exact fun _ _ _ h => h | exact fun _ _ _ h => by cases h.1) (Rws.grow _) (Or.inl ⟨by rfl, ?_⟩) hS ?_
  rotate_left
  · intro w' hS'
    simp only [Rws] at hS'
    go_simp
    refine ⟨?_, Below.refl _ _⟩
    rfl
  (try simp only [Act.put, List.setIfInBounds_toArray, List.set_cons_zero, List.set_cons_succ])
  refine wpAnyR_take (i := 3) (v := undef) (by simp only [List.getElem?_toArray, List.getElem?_cons_succ, List.getElem?_cons_zero]; rfl) (by kernel_rfl) (by kernel_rfl) (by kernel_rfl) (by first | exact fun _ _ _ h => h | exact fun _ _ _ h => by cases h.1) (Rws.grow _) (Or.inr ⟨by rfl, by rfl⟩) hS ?_
  (try simp only [Act.put, List.setIfInBounds_toArray, List.set_cons_zero, List.set_cons_succ])
  refine wpAnyR_take (i := 4) (v := undef) (by simp only [List.getElem?_toArray, List.getElem?_cons_succ, List.getElem?_cons_zero]; rfl) (by kernel_rfl) (by kernel_rfl) (by kernel_rfl) (by first | exact fun _ _ _ h => h | exact fun _ _ _ h => by cases h.1) (Rws.grow _) (Or.inr ⟨by rfl, by rfl⟩) hS ?_
  (try simp only [Act.put, List.setIfInBounds_toArray, List.set_cons_zero, List.set_cons_succ])
  refine wpAnyR_take (i := 5) (v := undef) (by simp only [List.getElem?_toArray, List.getElem?_cons_succ, List.getElem?_cons_zero]; rfl) (by kernel_rfl) (by kernel_rfl) (by kernel_rfl) (by first | exact fun _ _ _ h => h | exact fun _ _ _ h => by cases h.1) (Rws.grow _) (Or.inr ⟨by rfl, by rfl⟩) hS ?_
  (try simp only [Act.put, List.setIfInBounds_toArray, List.set_cons_zero, List.set_cons_succ])
  refine wpAnyR_take (i := 6) (v := undef) (by simp only [List.getElem?_toArray, List.getElem?_cons_succ, List.getElem?_cons_zero]; rfl) (by kernel_rfl) (by kernel_rfl) (by kernel_rfl) (by first | exact fun _ _ _ h => h | exact fun _ _ _ h => by cases h.1) (Rws.grow _) (Or.inr ⟨by rfl, by rfl⟩) hS ?_
  (try simp only [Act.put, List.setIfInBounds_toArray, List.set_cons_zero, List.set_cons_succ])
  refine wpAnyR_take (i := 7) (v := undef) (by simp only [List.getElem?_toArray, List.getElem?_cons_succ, List.getElem?_cons_zero]; rfl) (by kernel_rfl) (by kernel_rfl) (by kernel_rfl) (by first | exact fun _ _ _ h => h | exact fun _ _ _ h => by cases h.1) (Rws.grow _) (Or.inr ⟨by rfl, by rfl⟩) hS ?_
  (try simp only [Act.put, List.setIfInBounds_toArray, List.set_cons_zero, List.set_cons_succ])
  refine wpAnyR_take (i := 8) (v := undef) (by simp only [List.getElem?_toArray, List.getElem?_cons_succ, List.getElem?_cons_zero]; rfl) (by kernel_rfl) (by kernel_rfl) (by kernel_rfl) (by first | exact fun _ _ _ h => h | exact fun _ _ _ h => by cases h.1) (Rws.grow _) (Or.inr ⟨by rfl, by rfl⟩) hS ?_
  (try simp only [Act.put, List.setIfInBounds_toArray, List.set_cons_zero, List.set_cons_succ])
  refine wpAnyR_take (i := 9) (v := undef) (by simp only [List.getElem?_toArray, List.getElem?_cons_succ, List.getElem?_cons_zero]; rfl) (by kernel_rfl) (by kernel_rfl) (by kernel_rfl) (by first | exact fun _ _ _ h => h | exact fun _ _ _ h => by cases h.1) (Rws.grow _) (Or.inr ⟨by rfl, by rfl⟩) hS ?_
  (try simp only [Act.put, List.setIfInBounds_toArray, List.set_cons_zero, List.set_cons_succ])
  refine wpAnyR_take (i := 10) (v := undef) (by simp only [List.getElem?_toArray, List.getElem?_cons_succ, List.getElem?_cons_zero]; rfl) (by kernel_rfl) (by kernel_rfl) (by kernel_rfl) (by first | exact fun _ _ _ h => h | exact fun _ _ _ h => by cases h.1) (Rws.grow _) (Or.inr ⟨by rfl, by rfl⟩) hS ?_
  (try simp only [Act.put, List.setIfInBounds_toArray, List.set_cons_zero, List.set_cons_succ])
  refine wpAnyR_take (i := 11) (v := undef) (by simp only [List.getElem?_toArray, List.getElem?_cons_succ, List.getElem?_cons_zero]; rfl) (by kernel_rfl) (by kernel_rfl) (by kernel_rfl) (by first | exact fun _ _ _ h => h | exact fun _ _ _ h => by cases h.1) (Rws.grow _) (Or.inr ⟨by rfl, by rfl⟩) hS ?_
  (try simp only [Act.put, List.setIfInBounds_toArray, List.set_cons_zero, List.set_cons_succ])
  refine wpAnyR_take (i := 12) (v := undef) (by simp only [List.getElem?_toArray, List.getElem?_cons_succ, List.getElem?_cons_zero]; rfl) (by kernel_rfl) (by kernel_rfl) (by kernel_rfl) (by first | exact fun _ _ _ h => h | exact fun _ _ _ h => by cases h.1) (Rws.grow _) (Or.inr ⟨by rfl, by rfl⟩) hS ?_
  (try simp only [Act.put, List.setIfInBounds_toArray, List.set_cons_zero, List.set_cons_succ])
  refine wpAnyR_take (i := 13) (v := undef) (by simp only [List.getElem?_toArray, List.getElem?_cons_succ, List.getElem?_cons_zero]; rfl) (by kernel_rfl) (by kernel_rfl) (by kernel_rfl) (by first | exact fun _ _ _ h => h | exact fun _ _ _ h => by cases h.1) (Rws.grow _) (Or.inr ⟨by rfl, by rfl⟩) hS ?_
  (try simp only [Act.put, List.setIfInBounds_toArray, List.set_cons_zero, List.set_cons_succ])
  refine wpAnyR_take (i := 14) (v := undef) (by simp only [List.getElem?_toArray, List.getElem?_cons_succ, List.getElem?_cons_zero]; rfl) (by kernel_rfl) (by kernel_rfl) (by kernel_rfl) (by first | exact fun _ _ _ h => h | exact fun _ _ _ h => by cases h.1) (Rws.grow _) (Or.inr ⟨by rfl, by rfl⟩) hS ?_
  (try simp only [Act.put, List.setIfInBounds_toArray, List.set_cons_zero, List.set_cons_succ])
  refine wpAnyR_take (i := 15) (v := undef) (by simp only [List.getElem?_toArray, List.getElem?_cons_succ, List.getElem?_cons_zero]; rfl) (by kernel_rfl) (by kernel_rfl) (by kernel_rfl) (by first | exact fun _ _ _ h => h | exact fun _ _ _ h => by cases h.1) (Rws.grow _) (Or.inr ⟨by rfl, by rfl⟩) hS ?_
  (try simp only [Act.put, List.setIfInBounds_toArray, List.set_cons_zero, List.set_cons_succ])
  refine wpAnyR_take (i := 16) (v := undef) (by simp only [List.getElem?_toArray, List.getElem?_cons_succ, List.getElem?_cons_zero]; rfl) (by kernel_rfl) (by kernel_rfl) (by kernel_rfl) (by first | exact fun _ _ _ h => h | exact fun _ _ _ h => by cases h.1) (Rws.grow _) (Or.inr ⟨by rfl, by rfl⟩) hS ?_
  (try simp only [Act.put, List.setIfInBounds_toArray, List.set_cons_zero, List.set_cons_succ])
  refine wpAnyR_take (i := 17) (v := undef) (by simp only [List.getElem?_toArray, List.getElem?_cons_succ, List.getElem?_cons_zero]; rfl) (by kernel_rfl) (by kernel_rfl) (by kernel_rfl) (by first | exact fun _ _ _ h => h | exact fun _ _ _ h => by cases h.1) (Rws.grow _) (Or.inr ⟨by rfl, by rfl⟩) hS ?_
  (try simp only [Act.put, List.setIfInBounds_toArray, List.set_cons_zero, List.set_cons_succ])
  refine wpAnyR_take (i := 18) (v := ?_) (by simp only [List.getElem?_toArray, List.getElem?_cons_succ, List.getElem?_cons_zero]; rfl) (by kernel_rfl) (by kernel_rfl) (by kernel_rfl) (by first | exact fun _ _ _ h => h | exact fun _ _ _ h => by cases h.1) (Rws.grow _) (Or.inl ⟨by rfl, ?_⟩) hS ?_
  rotate_left
  · intro w' hS'
    simp only [Rws] at hS'
    go_simp
    refine ⟨?_, Below.refl _ _⟩
    rfl
  (try simp only [Act.put, List.setIfInBounds_toArray, List.set_cons_zero, List.set_cons_succ])
  refine wpAnyR_done (by kernel_rfl) (fun w2 b2 => ?_) _
  replace b2 : Below (W1).heap.size (W1) w2 := below_step (Below.drew (Below.refl _ _)) b2
  have z2 := b2.size
  have r2 := (row_below b2 (by omega)).trans r1
  have rK2 := (row_below b2 (by omega)).trans rK1
  have c2 := b1.trans ((BelowBut.of b2).mono (by omega))
  clear b2 r1 rK1 b1 hS
  go_wp2_with fail
  refine (HG.out _ r2).mono ?_
  rintro e w3 ⟨T, g, rfl, rg, gg, zg, rT, gT, zT, nTg, r3, b3⟩
  have z3 := b3.size
  have c3 := c2.trans (b3.mono (by omega))
  clear b3 r2 rK2 c2 HG
  go_wp2_with fail
  refine wp_region_beginR [(S, (u8s psk ++ (Value.bool true :: Value.int .i64 r :: Value.int .i64 k :: Value.int .i64 p :: Value.int .i64 d :: Value.int .i64 (now + 1) :: Value.pointer none :: Value.pointer b :: Value.pointer c :: Value.pointer (some ⟨T, 0, none⟩) :: Value.int .i64 (now + 1) :: Value.int .i64 made :: [Value.int .i64 last])).toArray)] rfl (by simp only [Rws]; (repeat (first | exact trivial | refine ⟨(by first | assumption | (simp [go_sem, *]; done)), (by first | omega | (simp; done) | (simp; omega)), ?_⟩))) (fun hS => ?_)
  refine wpAnyR_take (i := 0) (v := ?_) (by simp only [List.getElem?_toArray, List.getElem?_cons_succ, List.getElem?_cons_zero]; rfl) (by kernel_rfl) (by kernel_rfl) (by kernel_rfl) (by first | exact fun _ _ _ h => h | exact fun _ _ _ h => by cases h.1) (Rws.grow _) (Or.inl ⟨by rfl, ?_⟩) hS ?_
  rotate_left
  · intro w' hS'
    simp only [Rws] at hS'
    go_simp
    refine ⟨?_, Below.refl _ _⟩
    rfl
  (try simp only [Act.put, List.setIfInBounds_toArray, List.set_cons_zero, List.set_cons_succ])
  refine wpAnyR_take (i := 1) (v := ?_) (by simp only [List.getElem?_toArray, List.getElem?_cons_succ, List.getElem?_cons_zero]; rfl) (by kernel_rfl) (by kernel_rfl) (by kernel_rfl) (by first | exact fun _ _ _ h => h | exact fun _ _ _ h => by cases h.1) (Rws.grow _) (Or.inl ⟨by rfl, ?_⟩) hS ?_
  rotate_left
  · intro w' hS'
    simp only [Rws] at hS'
    go_simp
    refine ⟨?_, Below.refl _ _⟩
    rfl
  (try simp only [Act.put, List.setIfInBounds_toArray, List.set_cons_zero, List.set_cons_succ])
  refine wpAnyR_take (i := 2) (v := ?_) (by simp only [List.getElem?_toArray, List.getElem?_cons_succ, List.getElem?_cons_zero]; rfl) (by kernel_rfl) (by kernel_rfl) (by kernel_rfl) (by first | exact fun _ _ _ h => h | exact fun _ _ _ h => by cases h.1) (Rws.grow _) (Or.inl ⟨by rfl, ?_⟩) hS ?_
  rotate_left
  · intro w' hS'
    simp only [Rws] at hS'
    go_simp
    refine ⟨?_, Below.refl _ _⟩
    rfl
  (try simp only [Act.put, List.setIfInBounds_toArray, List.set_cons_zero, List.set_cons_succ])
  refine wpAnyR_take (i := 3) (v := undef) (by simp only [List.getElem?_toArray, List.getElem?_cons_succ, List.getElem?_cons_zero]; rfl) (by kernel_rfl) (by kernel_rfl) (by kernel_rfl) (by first | exact fun _ _ _ h => h | exact fun _ _ _ h => by cases h.1) (Rws.grow _) (Or.inr ⟨by rfl, by rfl⟩) hS ?_
  (try simp only [Act.put, List.setIfInBounds_toArray, List.set_cons_zero, List.set_cons_succ])
  refine wpAnyR_take (i := 4) (v := undef) (by simp only [List.getElem?_toArray, List.getElem?_cons_succ, List.getElem?_cons_zero]; rfl) (by kernel_rfl) (by kernel_rfl) (by kernel_rfl) (by first | exact fun _ _ _ h => h | exact fun _ _ _ h => by cases h.1) (Rws.grow _) (Or.inr ⟨by rfl, by rfl⟩) hS ?_
  (try simp only [Act.put, List.setIfInBounds_toArray, List.set_cons_zero, List.set_cons_succ])
  refine wpAnyR_take (i := 5) (v := undef) (by simp only [List.getElem?_toArray, List.getElem?_cons_succ, List.getElem?_cons_zero]; rfl) (by kernel_rfl) (by kernel_rfl) (by kernel_rfl) (by first | exact fun _ _ _ h => h | exact fun _ _ _ h => by cases h.1) (Rws.grow _) (Or.inr ⟨by rfl, by rfl⟩) hS ?_
  (try simp only [Act.put, List.setIfInBounds_toArray, List.set_cons_zero, List.set_cons_succ])
  refine wpAnyR_take (i := 6) (v := undef) (by simp only [List.getElem?_toArray, List.getElem?_cons_succ, List.getElem?_cons_zero]; rfl) (by kernel_rfl) (by kernel_rfl) (by kernel_rfl) (by first | exact fun _ _ _ h => h | exact fun _ _ _ h => by cases h.1) (Rws.grow _) (Or.inr ⟨by rfl, by rfl⟩) hS ?_
  (try simp only [Act.put, List.setIfInBounds_toArray, List.set_cons_zero, List.set_cons_succ])
  refine wpAnyR_take (i := 7) (v := undef) (by simp only [List.getElem?_toArray, List.getElem?_cons_succ, List.getElem?_cons_zero]; rfl) (by kernel_rfl) (by kernel_rfl) (by kernel_rfl) (by first | exact fun _ _ _ h => h | exact fun _ _ _ h => by cases h.1) (Rws.grow _) (Or.inr ⟨by rfl, by rfl⟩) hS ?_
  (try simp only [Act.put, List.setIfInBounds_toArray, List.set_cons_zero, List.set_cons_succ])
  refine wpAnyR_take (i := 8) (v := undef) (by simp only [List.getElem?_toArray, List.getElem?_cons_succ, List.getElem?_cons_zero]; rfl) (by kernel_rfl) (by kernel_rfl) (by kernel_rfl) (by first | exact fun _ _ _ h => h | exact fun _ _ _ h => by cases h.1) (Rws.grow _) (Or.inr ⟨by rfl, by rfl⟩) hS ?_
  (try simp only [Act.put, List.setIfInBounds_toArray, List.set_cons_zero, List.set_cons_succ])
  refine wpAnyR_take (i := 9) (v := undef) (by simp only [List.getElem?_toArray, List.getElem?_cons_succ, List.getElem?_cons_zero]; rfl) (by kernel_rfl) (by kernel_rfl) (by kernel_rfl) (by first | exact fun _ _ _ h => h | exact fun _ _ _ h => by cases h.1) (Rws.grow _) (Or.inr ⟨by rfl, by rfl⟩) hS ?_
  (try simp only [Act.put, List.setIfInBounds_toArray, List.set_cons_zero, List.set_cons_succ])
  refine wpAnyR_take (i := 10) (v := undef) (by simp only [List.getElem?_toArray, List.getElem?_cons_succ, List.getElem?_cons_zero]; rfl) (by kernel_rfl) (by kernel_rfl) (by kernel_rfl) (by first | exact fun _ _ _ h => h | exact fun _ _ _ h => by cases h.1) (Rws.grow _) (Or.inr ⟨by rfl, by rfl⟩) hS ?_
  (try simp only [Act.put, List.setIfInBounds_toArray, List.set_cons_zero, List.set_cons_succ])
  refine wpAnyR_take (i := 11) (v := undef) (by simp only [List.getElem?_toArray, List.getElem?_cons_succ, List.getElem?_cons_zero]; rfl) (by kernel_rfl) (by kernel_rfl) (by kernel_rfl) (by first | exact fun _ _ _ h => h | exact fun _ _ _ h => by cases h.1) (Rws.grow _) (Or.inr ⟨by rfl, by rfl⟩) hS ?_
  (try simp only [Act.put, List.setIfInBounds_toArray, List.set_cons_zero, List.set_cons_succ])
  refine wpAnyR_take (i := 12) (v := undef) (by simp only [List.getElem?_toArray, List.getElem?_cons_succ, List.getElem?_cons_zero]; rfl) (by kernel_rfl) (by kernel_rfl) (by kernel_rfl) (by first | exact fun _ _ _ h => h | exact fun _ _ _ h => by cases h.1) (Rws.grow _) (Or.inr ⟨by rfl, by rfl⟩) hS ?_
  (try simp only [Act.put, List.setIfInBounds_toArray, List.set_cons_zero, List.set_cons_succ])
  refine wpAnyR_take (i := 13) (v := undef) (by simp only [List.getElem?_toArray, List.getElem?_cons_succ, List.getElem?_cons_zero]; rfl) (by kernel_rfl) (by kernel_rfl) (by kernel_rfl) (by first | exact fun _ _ _ h => h | exact fun _ _ _ h => by cases h.1) (Rws.grow _) (Or.inr ⟨by rfl, by rfl⟩) hS ?_
  (try simp only [Act.put, List.setIfInBounds_toArray, List.set_cons_zero, List.set_cons_succ])
  refine wpAnyR_take (i := 14) (v := undef) (by simp only [List.getElem?_toArray, List.getElem?_cons_succ, List.getElem?_cons_zero]; rfl) (by kernel_rfl) (by kernel_rfl) (by kernel_rfl) (by first | exact fun _ _ _ h => h | exact fun _ _ _ h => by cases h.1) (Rws.grow _) (Or.inr ⟨by rfl, by rfl⟩) hS ?_
  (try simp only [Act.put, List.setIfInBounds_toArray, List.set_cons_zero, List.set_cons_succ])
  refine wpAnyR_take (i := 15) (v := undef) (by simp only [List.getElem?_toArray, List.getElem?_cons_succ, List.getElem?_cons_zero]; rfl) (by kernel_rfl) (by kernel_rfl) (by kernel_rfl) (by first | exact fun _ _ _ h => h | exact fun _ _ _ h => by cases h.1) (Rws.grow _) (Or.inr ⟨by rfl, by rfl⟩) hS ?_
  (try simp only [Act.put, List.setIfInBounds_toArray, List.set_cons_zero, List.set_cons_succ])
  refine wpAnyR_take (i := 16) (v := undef) (by simp only [List.getElem?_toArray, List.getElem?_cons_succ, List.getElem?_cons_zero]; rfl) (by kernel_rfl) (by kernel_rfl) (by kernel_rfl) (by first | exact fun _ _ _ h => h | exact fun _ _ _ h => by cases h.1) (Rws.grow _) (Or.inr ⟨by rfl, by rfl⟩) hS ?_
  (try simp only [Act.put, List.setIfInBounds_toArray, List.set_cons_zero, List.set_cons_succ])
  refine wpAnyR_take (i := 17) (v := undef) (by simp only [List.getElem?_toArray, List.getElem?_cons_succ, List.getElem?_cons_zero]; rfl) (by kernel_rfl) (by kernel_rfl) (by kernel_rfl) (by first | exact fun _ _ _ h => h | exact fun _ _ _ h => by cases h.1) (Rws.grow _) (Or.inr ⟨by rfl, by rfl⟩) hS ?_
  (try simp only [Act.put, List.setIfInBounds_toArray, List.set_cons_zero, List.set_cons_succ])
  refine wpAnyR_take (i := 18) (v := ?_) (by simp only [List.getElem?_toArray, List.getElem?_cons_succ, List.getElem?_cons_zero]; rfl) (by kernel_rfl) (by kernel_rfl) (by kernel_rfl) (by first | exact fun _ _ _ h => h | exact fun _ _ _ h => by cases h.1) (Rws.grow _) (Or.inl ⟨by rfl, ?_⟩) hS ?_
  rotate_left
  · intro w' hS'
    simp only [Rws] at hS'
    go_simp
    refine ⟨?_, Below.refl _ _⟩
    rfl
  (try simp only [Act.put, List.setIfInBounds_toArray, List.set_cons_zero, List.set_cons_succ])
  refine wpAnyR_done (by kernel_rfl) (fun w4 b4 => ?_) _
  replace b4 : Below (w3).heap.size (w3) w4 := below_step (Below.drew (Below.refl _ _)) b4
  have z4 := b4.size
  have r4 := (row_below b4 (by omega)).trans r3
  have rg4 := (row_below b4 (by omega)).trans rg
  have rT4 := (row_below b4 (by omega)).trans rT
  have c4 := c3.trans ((BelowBut.of b4).mono (by omega))
  clear b4 r3 rg rT c3 hS
  go_wp2_with fail
  go_ret
  exact ⟨T, g, rfl, rg4, by omega, by omega, rT4, by omega, by omega, nTg, r4, c4⟩
end Go.Proofs.YtakkicppgkmokaaGreat
end

/- The walk of the law LinkRefuses. -/
section
set_option linter.unusedSimpArgs false
set_option linter.unusedVariables false
set_option maxRecDepth 4000
namespace Go.Proofs.YtakkicppgkmokaaGreat
open Go.ChangeShapes Go.WideShapes Go.ChangeAt Go.RowKit
attribute [local irreducible] greetL hailT
theorem u8s_one31 : u8s (1 :: List.replicate 31 0) = (Value.int .u8 1 :: (zeros 32 (Value.int .u8 0)).tail) := by
  simp [u8s, zeros]
set_option maxRecDepth 20000 in
set_option maxHeartbeats 2000000 in
theorem now_any (psk : List UInt8) (g : Bool) (r k p d now asked made last : Int) (a b c talk : Option Addr) (S : Nat) (w : World) (hp : psk.length = 32) (hS : row w S = (⟨psk, g, r, k, p, d, now, a, b, c, talk, asked, made, last⟩ : LinkT).cells.toArray) :
    Calls Tryz.prog 22 #[.pointer (some ⟨S, 0, none⟩)] w fun e w' => e = .returned (.int .i64 now) ∧ w = w' := by
  unfold LinkT.cells at hS
  simp only at hS
  go_enter Tryz.func22, Tryz.ntmps22
  go_wp2_with fail
  go_ret
  exact ⟨rfl, rfl⟩
set_option maxRecDepth 20000 in
set_option maxHeartbeats 2000000 in
theorem awake15_any (w : World) : Calls Tryz.prog 11 #[] w fun e w' => e = .returned (.bool true) ∧ Below w.heap.size w w' := by
  have H1 := fun w => linkNew_ok (List.replicate 32 0) true 1 9 2 5 w (by simp) ⟨⟨by omega, by omega⟩, ⟨by omega, by omega⟩, ⟨by omega, by omega⟩, ⟨by omega, by omega⟩⟩
  have H2 := fun S w hr => ltick_go (List.replicate 32 0) (1 :: List.replicate 31 0) 1 9 2 5 0 0 0 0 none none S w (by simp) (by simp) ⟨by omega, by omega⟩ hr
  have H3 := fun psk r k p d asked made last b c talk S w h => now_any psk true r k p d (0 + 1) asked made last none b c talk S w h
  rw [show u8s (List.replicate 32 0) = zeros 32 (Value.int .u8 0) from u8s_zeros 32] at H1
  have lg := greetL_length (List.replicate 32 0) (1 :: List.replicate 31 0)
  obtain ⟨g, hg⟩ : ∃ g, greetL (List.replicate 32 0) (1 :: List.replicate 31 0) = g := ⟨_, rfl⟩
  rw [hg] at H2 lg
  have lgI : (g.length : Int) = 48 := by omega
  have K1 := Lib.hid H1
  have K2 := Lib.hid H2
  have K3 := Lib.hid H3
  have LG := Lib.hid lg
  clear H1 H2 H3 hg lg
  go_enter Tryz.func11, Tryz.ntmps11
  go_wp2_with fail
  refine (K1.out _).mono ?_
  rintro e w1 ⟨L, rfl, gL, zL, rL, b1⟩
  have z1 := b1.size
  go_wp2_with fail
  refine (K2.out L w1 rL).mono ?_
  rintro e w2 ⟨T, q, rfl, rq, gq, zq, rT, gT, zT, nT, rL2, b2⟩
  have z2 := b2.size
  go_wp2_with fail
  refine (K3.out _ _ _ _ _ _ _ _ _ _ _ _ _ (by simp) rL2).mono ?_
  rintro e w3 ⟨rfl, rfl⟩
  go_wp2_with fail
  go_ret
  exact ⟨by simp, b1.trans ((b2.mono (by omega)).below (by omega))⟩
set_option maxRecDepth 20000 in
set_option maxHeartbeats 2000000 in
theorem right15_any (r k p d : Int) (w : World) : Calls Tryz.prog 19 #[.agg #[.int .i64 r, .int .i64 k, .int .i64 p, .int .i64 d]] w fun e w' => e = .returned (.bool (decide (okTimes r k p d))) ∧ Below w.heap.size w w' := by
  go_enter Tryz.func19, Tryz.ntmps19
  obtain ⟨W, hW⟩ : ∃ v, w.alloc (.cells #[.int .i64 r, .int .i64 k, .int .i64 p, .int .i64 d] 57) = v := ⟨_, rfl⟩
  have rT : row W w.heap.size = #[.int .i64 r, .int .i64 k, .int .i64 p, .int .i64 d] := by rw [← hW]; simp [go_sem]
  have bW : Below w.heap.size w W := by
    rw [← hW]
    (repeat (first | exact Below.refl _ _ | refine Below.alloc ?_ (by first | (simp; done) | (simp; omega) | omega) _ | refine Below.drew ?_ | refine Below.setRow ?_ (by first | (simp; done) | (simp; omega) | omega) _ | refine Below.setCell ?_ (by first | (simp; done) | (simp; omega) | omega) _))
  go_wp2_with fail
  clear hW
  refine wp_loop_rounds 5 ?_
  rw [rounds_succ]
  by_cases hr : okTime r
  · obtain ⟨r1, r2⟩ := okTime_yes hr
    have HR := Lib.hid hr
    clear hr
    go_wp2_with fail
    rw [rounds_succ]
    by_cases hk : okTime k
    · obtain ⟨k1, k2⟩ := okTime_yes hk
      have HK := Lib.hid hk
      clear hk
      go_wp2_with fail
      rw [rounds_succ]
      by_cases hp2 : okTime p
      · obtain ⟨p1, p2⟩ := okTime_yes hp2
        have HP := Lib.hid hp2
        clear hp2
        go_wp2_with fail
        rw [rounds_succ]
        by_cases hd : okTime d
        · obtain ⟨d1, d2⟩ := okTime_yes hd
          have HD := Lib.hid hd
          clear hd
          go_wp2_with fail
          rw [rounds_succ]
          go_wp2_with fail
          go_ret
          exact ⟨by rw [decide_eq_true (show okTimes r k p d from ⟨HR.out, HK.out, HP.out, HD.out⟩)]; rfl, bW⟩
        · have HN := Lib.hid (show ¬ okTimes r k p d from fun h => hd h.2.2.2)
          rcases okTime_no hd with d1 | ⟨d1, d2⟩ <;>
          · clear hd
            go_wp2_with fail
            go_ret
            exact ⟨by rw [decide_eq_false HN.out]; rfl, bW⟩
      · have HN := Lib.hid (show ¬ okTimes r k p d from fun h => hp2 h.2.2.1)
        rcases okTime_no hp2 with d1 | ⟨d1, d2⟩ <;>
        · clear hp2
          go_wp2_with fail
          go_ret
          exact ⟨by rw [decide_eq_false HN.out]; rfl, bW⟩
    · have HN := Lib.hid (show ¬ okTimes r k p d from fun h => hk h.2.1)
      rcases okTime_no hk with d1 | ⟨d1, d2⟩ <;>
      · clear hk
        go_wp2_with fail
        go_ret
        exact ⟨by rw [decide_eq_false HN.out]; rfl, bW⟩
  · have HN := Lib.hid (show ¬ okTimes r k p d from fun h => hr h.1)
    rcases okTime_no hr with d1 | ⟨d1, d2⟩ <;>
    · clear hr
      go_wp2_with fail
      go_ret
      exact ⟨by rw [decide_eq_false HN.out]; rfl, bW⟩
section
variable (psk s : List UInt8) (r k p d : Int) (w : World)
set_option maxRecDepth 20000 in
set_option maxHeartbeats 2000000 in
theorem linkRefuses_long (hl : 1000 < s.length) : Calls Tryz.prog 5 #[.agg (u8s psk).toArray, .agg #[.int .i64 r, .int .i64 k, .int .i64 p, .int .i64 d], .string ⟨s.toArray⟩] w fun e w' => e = .returned (.bool true) ∧ Below w.heap.size w w' := by
  have hlI : (1000 : Int) < (s.length : Int) := by omega
  go_enter Tryz.func5, Tryz.ntmps5
  obtain ⟨W, hW⟩ : ∃ x, (w.alloc (.cells (u8s psk).toArray 23)).alloc (.cells #[.int .i64 r, .int .i64 k, .int .i64 p, .int .i64 d] 57) = x := ⟨_, rfl⟩
  have rP : row W w.heap.size = (u8s psk).toArray := by rw [← hW]; simp [go_sem]
  have rT : row W (w.heap.size + 1) = #[.int .i64 r, .int .i64 k, .int .i64 p, .int .i64 d] := by rw [← hW]; simp [go_sem]
  have zW : W.heap.size = w.heap.size + 2 := by rw [← hW]; simp
  have bW : Below w.heap.size w W := by
    rw [← hW]
    (repeat (first | exact Below.refl _ _ | refine Below.alloc ?_ (by first | (simp; done) | (simp; omega) | omega) _ | refine Below.drew ?_ | refine Below.setRow ?_ (by first | (simp; done) | (simp; omega) | omega) _ | refine Below.setCell ?_ (by first | (simp; done) | (simp; omega) | omega) _))
  go_wp2_with fail
  clear hW
  refine (awake15_any _).mono ?_
  rintro e w1 ⟨rfl, b1⟩
  have z1 := b1.size
  have bb1 := bW.trans (b1.mono (by omega))
  clear b1 bW
  go_wp2_with fail
  refine (awake15_any _).mono ?_
  rintro e w2 ⟨rfl, b2⟩
  have z2 := b2.size
  have bb2 := bb1.trans (b2.mono (by omega))
  clear b2 bb1
  go_wp2_with fail
  go_ret
  exact ⟨rfl, bb2⟩
set_option maxRecDepth 20000 in
set_option maxHeartbeats 2000000 in
theorem linkRefuses_bad (hp : psk.length = 32) (hl : s.length ≤ 1000) (h : ¬ okTimes r k p d) : Calls Tryz.prog 5 #[.agg (u8s psk).toArray, .agg #[.int .i64 r, .int .i64 k, .int .i64 p, .int .i64 d], .string ⟨s.toArray⟩] w fun e w' => e = .returned (.bool true) ∧ Below w.heap.size w w' := by
  have hlI : ¬ (1000 : Int) < (s.length : Int) := by omega
  have HN := Lib.hid (fun w => linkNew_bad psk true r k p d w hp h)
  have HR := fun w => right15_any r k p d w
  rw [decide_eq_false h] at HR
  have HR2 := Lib.hid HR
  have HT := fun s w => takeL_nil w s (List.replicate 32 0)
  rw [show u8s (List.replicate 32 0) = zeros 32 (Value.int .u8 0) from u8s_zeros 32] at HT
  have HT2 := Lib.hid HT
  have HK := fun w => tick_nil w (List.replicate 32 0)
  rw [show u8s (List.replicate 32 0) = zeros 32 (Value.int .u8 0) from u8s_zeros 32] at HK
  have HK2 := Lib.hid HK
  clear HR h HT HK
  go_enter Tryz.func5, Tryz.ntmps5
  obtain ⟨W, hW⟩ : ∃ x, (w.alloc (.cells (u8s psk).toArray 23)).alloc (.cells #[.int .i64 r, .int .i64 k, .int .i64 p, .int .i64 d] 57) = x := ⟨_, rfl⟩
  have rP : row W w.heap.size = (u8s psk).toArray := by rw [← hW]; simp [go_sem]
  have rT : row W (w.heap.size + 1) = #[.int .i64 r, .int .i64 k, .int .i64 p, .int .i64 d] := by rw [← hW]; simp [go_sem]
  have zW : W.heap.size = w.heap.size + 2 := by rw [← hW]; simp
  have bW : Below w.heap.size w W := by
    rw [← hW]
    (repeat (first | exact Below.refl _ _ | refine Below.alloc ?_ (by first | (simp; done) | (simp; omega) | omega) _ | refine Below.drew ?_ | refine Below.setRow ?_ (by first | (simp; done) | (simp; omega) | omega) _ | refine Below.setCell ?_ (by first | (simp; done) | (simp; omega) | omega) _))
  go_wp2_with fail
  clear hW
  refine (awake15_any _).mono ?_
  rintro e w1 ⟨rfl, b1⟩
  have z1 := b1.size
  have rP_1 := (row_below b1 (by omega)).trans rP
  have rT_1 := (row_below b1 (by omega)).trans rT
  have bb1 := bW.trans (b1.mono (by omega))
  clear b1 rP rT bW
  go_wp2_with fail
  refine (HN.out _).mono ?_
  rintro e w2 ⟨rfl, b2⟩
  have z2 := b2.size
  have rP_2 := (row_below b2 (by omega)).trans rP_1
  have rT_2 := (row_below b2 (by omega)).trans rT_1
  have bb2 := bb1.trans (b2.mono (by omega))
  clear b2 rP_1 rT_1 bb1
  go_wp2_with fail
  refine (HR2.out _).mono ?_
  rintro e w3 ⟨rfl, b3⟩
  have z3 := b3.size
  have rP_3 := (row_below b3 (by omega)).trans rP_2
  have rT_3 := (row_below b3 (by omega)).trans rT_2
  have bb3 := bb2.trans (b3.mono (by omega))
  clear b3 rP_2 rT_2 bb2
  go_wp2_with fail
  refine (send_nil _ []).mono ?_
  rintro e _ ⟨rfl, rfl⟩
  go_wp2_with fail
  refine (HT2.out _ _).mono ?_
  rintro e w4 ⟨rfl, b4⟩
  have z4 := b4.size
  have rP_4 := (row_below b4 (by omega)).trans rP_3
  have rT_4 := (row_below b4 (by omega)).trans rT_3
  have bb4 := bb3.trans (b4.mono (by omega))
  clear b4 rP_3 rT_3 bb3
  go_wp2_with fail
  refine (up_nil _).mono ?_
  rintro e _ ⟨rfl, rfl⟩
  go_wp2_with fail
  refine (now_nil _).mono ?_
  rintro e _ ⟨rfl, rfl⟩
  go_wp2_with fail
  refine (last_nil _).mono ?_
  rintro e _ ⟨rfl, rfl⟩
  go_wp2_with fail
  refine (HK2.out _).mono ?_
  rintro e w5 ⟨rfl, b5⟩
  have z5 := b5.size
  have rP_5 := (row_below b5 (by omega)).trans rP_4
  have rT_5 := (row_below b5 (by omega)).trans rT_4
  have bb5 := bb4.trans (b5.mono (by omega))
  clear b5 rP_4 rT_4 bb4
  go_wp2_with fail
  go_ret
  exact ⟨rfl, bb5⟩
end
theorem tunParse_ex (s : List UInt8) (hl : s.length ≤ 1000) : ∃ (kd : Int) (n : Nat) (body : List UInt8) (er : Int), (∀ w, Calls Tryz.prog 24 #[.string ⟨s.toArray⟩] w fun e w1 => e = .returned (.tuple #[.agg (gramV kd n body).toArray, .int .i64 er]) ∧ Below w.heap.size w w1) ∧ (er ≠ 0 ∨ (er = 0 ∧ (kd = 1 ∨ kd = 2 ∨ kd = 3))) := by
  have e0 : gramV 0 0 [] = gram0 := rfl
  cases s with
  | nil => exact ⟨0, 0, [], 2, fun w => tunParse_nil w, .inl (by decide)⟩
  | cons b l =>
    simp only [List.length_cons] at hl
    by_cases h0 : b.toNat < 1 ∨ 3 < b.toNat
    · exact ⟨0, 0, [], 3, fun w => tunParse_kind w b l h0 (by omega), .inl (by decide)⟩
    by_cases h3 : b = 3
    · by_cases hs : l.length < 24
      · exact ⟨0, 0, [], 2, fun w => tunParse_short3 w b l h3 hs (by omega), .inl (by decide)⟩
      · exact ⟨3, _, _, 0, fun w => tunParse_ok3 w b l h3 (by omega) (by omega), .inr ⟨rfl, .inr (.inr rfl)⟩⟩
    have h12 : b = 1 ∨ b = 2 := by
      have h1 : b.toNat = 1 ∨ b.toNat = 2 ∨ b.toNat = 3 := by omega
      rcases h1 with h | h | h
      · exact .inl (UInt8.toNat_inj.1 h)
      · exact .inr (UInt8.toNat_inj.1 h)
      · exact absurd (UInt8.toNat_inj.1 h) h3
    rcases Nat.lt_trichotomy l.length 48 with h | h | h
    · exact ⟨0, 0, [], 2, fun w => tunParse_short12 w b l h12 h (by omega), .inl (by decide)⟩
    · refine ⟨(b.toNat : Int), 0, l, 0, fun w => tunParse_ok12 w b l h12 h (by omega), .inr ⟨rfl, ?_⟩⟩
      rcases h12 with rfl | rfl
      · exact .inl rfl
      · exact .inr (.inl rfl)
    · exact ⟨0, 0, [], 3, fun w => tunParse_long12 w b l h12 h (by omega), .inl (by decide)⟩
section
variable (psk s : List UInt8) (r k p d : Int) (w : World)
set_option maxRecDepth 20000 in
set_option maxHeartbeats 2000000 in
theorem linkRefuses_good (hp : psk.length = 32) (hl : s.length ≤ 1000) (h : okTimes r k p d) : Calls Tryz.prog 5 #[.agg (u8s psk).toArray, .agg #[.int .i64 r, .int .i64 k, .int .i64 p, .int .i64 d], .string ⟨s.toArray⟩] w fun e w' => e = .returned (.bool true) ∧ Below w.heap.size w w' := by
  have hlI : ¬ (1000 : Int) < (s.length : Int) := by omega
  obtain ⟨kd, n, body, er, HP0, hcase⟩ := tunParse_ex s hl
  have HP := Lib.hid HP0
  have HN := Lib.hid (fun w => linkNew_ok psk true r k p d w hp h)
  have HR := fun w => right15_any r k p d w
  rw [decide_eq_true h] at HR
  have HR2 := Lib.hid HR
  have HT := fun s w => takeL_nil w s (List.replicate 32 0)
  rw [show u8s (List.replicate 32 0) = zeros 32 (Value.int .u8 0) from u8s_zeros 32] at HT
  have HT2 := Lib.hid HT
  have HK := fun w => tick_nil w (List.replicate 32 0)
  rw [show u8s (List.replicate 32 0) = zeros 32 (Value.int .u8 0) from u8s_zeros 32] at HK
  have HK2 := Lib.hid HK
  have HU := Lib.hid (fun S w hr => up_fresh psk r k p d 0 0 0 0 S w hp hr)
  have HTake : ∃ i : Int, (∀ S w, row w S = (newT psk true r k p d).cells.toArray → Calls Tryz.prog 21 #[.pointer (some ⟨S, 0, none⟩), .string ⟨s.toArray⟩, .agg (u8s (List.replicate 32 0)).toArray] w fun e w' => e = .returned (.tuple #[.string ⟨#[]⟩, .slice none 0 0, .int .i64 i]) ∧ Below w.heap.size w w') ∧ ((er ≠ 0 ∧ i = er) ∨ (er = 0 ∧ i = 7 ∧ 0 < kd)) := by
    rcases hcase with he | ⟨rfl, hk⟩
    · exact ⟨er, fun S w hr => takeL_bad psk (List.replicate 32 0) r k p d 0 0 0 0 S w hp hr s kd n body er he HP0, .inl ⟨he, rfl⟩⟩
    · refine ⟨7, fun S w hr => ?_, .inr ⟨rfl, rfl, by omega⟩⟩
      rcases hk with rfl | rfl | rfl
      · exact takeL_1 psk (List.replicate 32 0) r k p d 0 0 0 0 S w hp hr (by simp) s n body HP0
      · exact takeL_2 psk (List.replicate 32 0) r k p d 0 0 0 0 S w hp hr (by simp) s n body HP0
      · exact takeL_3 psk (List.replicate 32 0) r k p d 0 0 0 0 S w hp hr (by simp) s n body HP0
  obtain ⟨i, HTk, hi⟩ := HTake
  rw [show u8s (List.replicate 32 0) = zeros 32 (Value.int .u8 0) from u8s_zeros 32] at HTk
  have HTK := Lib.hid HTk
  have HI := Lib.hid hi
  have HC := Lib.hid hcase
  clear HR h HT HK HP0 HTk hi hcase
  go_enter Tryz.func5, Tryz.ntmps5
  obtain ⟨W, hW⟩ : ∃ x, (w.alloc (.cells (u8s psk).toArray 23)).alloc (.cells #[.int .i64 r, .int .i64 k, .int .i64 p, .int .i64 d] 57) = x := ⟨_, rfl⟩
  have rP : row W w.heap.size = (u8s psk).toArray := by rw [← hW]; simp [go_sem]
  have rT : row W (w.heap.size + 1) = #[.int .i64 r, .int .i64 k, .int .i64 p, .int .i64 d] := by rw [← hW]; simp [go_sem]
  have zW : W.heap.size = w.heap.size + 2 := by rw [← hW]; simp
  have bW : Below w.heap.size w W := by
    rw [← hW]
    (repeat (first | exact Below.refl _ _ | refine Below.alloc ?_ (by first | (simp; done) | (simp; omega) | omega) _ | refine Below.drew ?_ | refine Below.setRow ?_ (by first | (simp; done) | (simp; omega) | omega) _ | refine Below.setCell ?_ (by first | (simp; done) | (simp; omega) | omega) _))
  go_wp2_with fail
  clear hW
  refine (awake15_any _).mono ?_
  rintro e w1 ⟨rfl, b1⟩
  have z1 := b1.size
  have rP_1 := (row_below b1 (by omega)).trans rP
  have rT_1 := (row_below b1 (by omega)).trans rT
  have bb1 := bW.trans (b1.mono (by omega))
  clear b1 rP rT bW
  go_wp2_with fail
  refine (HN.out _).mono ?_
  rintro e w2 ⟨L, rfl, gL, zL, rL, b2⟩
  have z2 := b2.size
  have rP_2 := (row_below b2 (by omega)).trans rP_1
  have rT_2 := (row_below b2 (by omega)).trans rT_1
  have bb2 := bb1.trans (b2.mono (by omega))
  clear b2 rP_1 rT_1 bb1
  go_wp2_with fail
  refine (HR2.out _).mono ?_
  rintro e w3 ⟨rfl, b3⟩
  have z3 := b3.size
  have rP_3 := (row_below b3 (by omega)).trans rP_2
  have rT_3 := (row_below b3 (by omega)).trans rT_2
  have rL_3 := (row_below b3 (by omega)).trans rL
  have bb3 := bb2.trans (b3.mono (by omega))
  clear b3 rP_2 rT_2 rL bb2
  go_wp2_with fail
  refine (send_nil _ []).mono ?_
  rintro e _ ⟨rfl, rfl⟩
  go_wp2_with fail
  refine (HT2.out _ _).mono ?_
  rintro e w4 ⟨rfl, b4⟩
  have z4 := b4.size
  have rP_4 := (row_below b4 (by omega)).trans rP_3
  have rT_4 := (row_below b4 (by omega)).trans rT_3
  have rL_4 := (row_below b4 (by omega)).trans rL_3
  have bb4 := bb3.trans (b4.mono (by omega))
  clear b4 rP_3 rT_3 rL_3 bb3
  go_wp2_with fail
  refine (up_nil _).mono ?_
  rintro e _ ⟨rfl, rfl⟩
  go_wp2_with fail
  refine (now_nil _).mono ?_
  rintro e _ ⟨rfl, rfl⟩
  go_wp2_with fail
  refine (last_nil _).mono ?_
  rintro e _ ⟨rfl, rfl⟩
  go_wp2_with fail
  refine (HK2.out _).mono ?_
  rintro e w5 ⟨rfl, b5⟩
  have z5 := b5.size
  have rP_5 := (row_below b5 (by omega)).trans rP_4
  have rT_5 := (row_below b5 (by omega)).trans rT_4
  have rL_5 := (row_below b5 (by omega)).trans rL_4
  have bb5 := bb4.trans (b5.mono (by omega))
  clear b5 rP_4 rT_4 rL_4 bb4
  go_wp2_with fail
  refine (HP.out _).mono ?_
  rintro e w6 ⟨rfl, b6⟩
  have z6 := b6.size
  have rP_6 := (row_below b6 (by omega)).trans rP_5
  have rT_6 := (row_below b6 (by omega)).trans rT_5
  have rL_6 := (row_below b6 (by omega)).trans rL_5
  have bb6 := bb5.trans (b6.mono (by omega))
  clear b6 rP_5 rT_5 rL_5 bb5
  unfold gramV
  obtain ⟨W7, hW7⟩ : ∃ v, w6.alloc (.cells ([Value.int .i64 kd, Value.int .u64 (n : Int), Value.string ⟨body.toArray⟩]).toArray 68) = v := ⟨_, rfl⟩
  have rG_7 : row W7 w6.heap.size = ([Value.int .i64 kd, Value.int .u64 (n : Int), Value.string ⟨body.toArray⟩]).toArray := by rw [← hW7]; simp [go_sem]
  have b7 : Below w6.heap.size w6 W7 := by
    rw [← hW7]
    (repeat (first | exact Below.refl _ _ | refine Below.alloc ?_ (by first | (simp; done) | (simp; omega) | omega) _ | refine Below.drew ?_ | refine Below.setRow ?_ (by first | (simp; done) | (simp; omega) | omega) _ | refine Below.setCell ?_ (by first | (simp; done) | (simp; omega) | omega) _))
  have z7 : W7.heap.size = w6.heap.size + 1 := by rw [← hW7]; simp
  have rP_7 := (row_below b7 (by omega)).trans rP_6
  have rT_7 := (row_below b7 (by omega)).trans rT_6
  have rL_7 := (row_below b7 (by omega)).trans rL_6
  have bb7 := bb6.trans (b7.mono (by omega))
  go_wp2_with fail
  clear hW7 b7 rP_6 rT_6 rL_6 bb6
  refine (HTK.out _ _ rL_7).mono ?_
  rintro e w8 ⟨rfl, b8⟩
  have z8 := b8.size
  have rP_8 := (row_below b8 (by omega)).trans rP_7
  have rT_8 := (row_below b8 (by omega)).trans rT_7
  have rL_8 := (row_below b8 (by omega)).trans rL_7
  have rG_8 := (row_below b8 (by omega)).trans rG_7
  have bb8 := bb7.trans (b8.mono (by omega))
  clear b8 rP_7 rT_7 rL_7 rG_7 bb7
  go_wp2_with fail
  refine (HU.out _ _ rL_8).mono ?_
  rintro e w9 ⟨rfl, b9⟩
  have z9 := b9.size
  have rP_9 := (row_below b9 (by omega)).trans rP_8
  have rT_9 := (row_below b9 (by omega)).trans rT_8
  have rL_9 := (row_below b9 (by omega)).trans rL_8
  have rG_9 := (row_below b9 (by omega)).trans rG_8
  have bb9 := bb8.trans (b9.mono (by omega))
  clear b9 rP_8 rT_8 rL_8 rG_8 bb8
  rcases HI.out with ⟨he, rfl⟩ | ⟨rfl, rfl, hk⟩
  · have he2 : ¬ i = 0 := he
    go_wp2_with fail
    go_ret
    exact ⟨by simp, bb9⟩
  · go_wp2_with fail
    go_ret
    exact ⟨by simp [hk], bb9⟩
end
theorem linkRefuses_walk (W : World) (base : Nat) (args : Array Value) (hlen : args.size = Tryz.f5.params.size) (hval : ∀ (j : Nat) t v, Tryz.f5.params[j]? = some t → args[j]? = some v → Value.okWide Tryz.prog W .any base t v) :
    Calls Tryz.prog 5 args W fun e W' => e = .returned (.bool true) ∧ Below W.heap.size W W' := by
  obtain ⟨l⟩ := args
  match l, hlen with
  | [v0, v1, v2], _ =>
  obtain ⟨p, rfl, hp⟩ := open_key (hval 0 23 v0 rfl rfl)
  obtain ⟨vs, rfl, hg⟩ := open_plain (ls := leaves 4 (.int .i64) ++ []) Tryz.underlying57 rfl (by kernel_rfl) (by kernel_rfl) (hval 1 57 v1 rfl rfl)
  simp only [leaves, List.cons_append, List.nil_append] at hg
  obtain ⟨t0, q, rfl, _, hg⟩ := goods_int hg
  obtain ⟨t1, q, rfl, _, hg⟩ := goods_int hg
  obtain ⟨t2, q, rfl, _, hg⟩ := goods_int hg
  obtain ⟨t3, q, rfl, _, hg⟩ := goods_int hg
  have := goods_nil hg
  subst this
  obtain ⟨s, rfl, hs⟩ := open_str Tryz.underlying9 (hval 2 9 v2 rfl rfl)
  by_cases h1 : s.length ≤ 1000
  · by_cases h2 : okTimes t0 t1 t2 t3
    · exact linkRefuses_good p s t0 t1 t2 t3 W hp h1 h2
    · exact linkRefuses_bad p s t0 t1 t2 t3 W hp h1 h2
  · exact linkRefuses_long p s t0 t1 t2 t3 W (by omega)
end Go.Proofs.YtakkicppgkmokaaGreat
end
