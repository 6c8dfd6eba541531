/- Texts of this proof, merged: LnkM, LnkN, LnkO, Win, LnkP, LnkQ, LnkR, LnkU, LnkV, LnkX. -/
import Derived.Test.YtakkicppgkmokaaGreatLnkJJ
import Derived.Test.YtakkicppgkmokaaGreatJ44
set_option linter.unusedSimpArgs false
set_option linter.unusedVariables false
set_option maxRecDepth 4000
namespace Go.Proofs.YtakkicppgkmokaaGreat
section
open Go.RowKit
section
variable {P : Program} {ops : Array Oper} {Q : Exit → Act → World → Prop} {md : Region.Mode} {S : World → Prop}
theorem wpAnyR_opX (i : Nat) {fuel : Nat} {listed : Array Bool} {a : Act} {w : World} (hr : Region.ready md ops listed = [i])
  (h : ∀ w1, Below w.heap.size w w1 → wpOp P ops Q i (fun a' w' => S w' ∧ wpAnyR P md ops Q S fuel (listed.setIfInBounds i true) a' w') a w1) : wpAnyR P md ops Q S (fuel + 1) listed a w := by
 intro w1 h1
 refine ⟨fun h0 => by rw [hr] at h0; simp at h0, fun j hj => ?_⟩
 rw [hr] at hj
 obtain rfl := List.mem_singleton.1 hj
 exact h w1 h1
end
def newS15 (k1 k2 : List UInt8) (id now : Int) : SessT := ⟨k1, k2, id, 0, 0, 0, false, now, now, now⟩
section
attribute [local irreducible] sealL nonceL tagL maskL greetL hailT
variable (psk sec : List UInt8) (g : Bool) (r k p d now asked made last : Int) (a b c talk : Option Addr) (S : Nat) (w : World) (hp : psk.length = 32)
include hp
set_option maxRecDepth 20000 in
set_option maxHeartbeats 4000000 in
theorem started_any (k1 k2 : List UInt8) (h1 : k1.length = 32) (h2 : k2.length = 32) (hm : 0 ≤ made ∧ made ≤ 1000000)
  (hS : row w S = (⟨psk, g, r, k, p, d, now, a, b, c, talk, asked, made, last⟩ : LinkT).cells.toArray) :
  Calls Tryz.prog 78 #[.pointer (some ⟨S, 0, none⟩), .agg (u8s k1 ++ u8s k2).toArray] w fun e w' => ∃ N, e = .returned (.pointer (some ⟨N, 0, none⟩)) ∧ w.heap.size ≤ N ∧ N < w'.heap.size ∧ row w' N = (newS15 k1 k2 (made + 1) now).cells.toArray ∧ row w' S = (⟨psk, g, r, k, p, d, now, a, b, c, talk, asked, (made + 1), last⟩ : LinkT).cells.toArray ∧ BelowBut w.heap.size S w w' := by
 have zS : S < w.heap.size := lt_of_row (i := 0) (by rw [hS]; simp [LinkT.cells, hp])
 unfold LinkT.cells at hS ⊢
 unfold newS15 SessT.cells
 dsimp only at hS ⊢
 have hw1 : wrap64 (made + 1) = made + 1 := by unfold wrap64; omega
 have hw2 : IntKind.i64.wrap (made + 1) = made + 1 := by rw [IntKind.wrap_i64]; omega
 go_enter Tryz.func78, Tryz.ntmps78
 obtain ⟨W, hW⟩ : ∃ v, w.alloc (.cells (u8s k1 ++ u8s k2).toArray 29) = v := ⟨_, rfl⟩
 have bW : Below w.heap.size w W := by rw [← hW]; exact Below.alloc (Below.refl _ _) (Nat.le_refl _) _
 have zW : W.heap.size = w.heap.size + 1 := by rw [← hW, alloc_sizeW]
 have rK : row W w.heap.size = (u8s k1 ++ u8s k2).toArray := by rw [← hW]; exact row_alloc_at _ _ _ rfl
 have rS := (row_below bW zS).trans hS
 obtain ⟨W1, hW1⟩ : ∃ v, W.setRow S (u8s psk ++ [Value.bool g, .int .i64 r, .int .i64 k, .int .i64 p, .int .i64 d, .int .i64 now, .pointer a, .pointer b, .pointer c, .pointer talk, .int .i64 asked, .int .i64 (made + 1), .int .i64 last]).toArray = v := ⟨_, rfl⟩
 have r1 : row W1 S = (u8s psk ++ [Value.bool g, .int .i64 r, .int .i64 k, .int .i64 p, .int .i64 d, .int .i64 now, .pointer a, .pointer b, .pointer c, .pointer talk, .int .i64 asked, .int .i64 (made + 1), .int .i64 last]).toArray := by rw [← hW1]; exact row_setRow_same (by rw [rS]; simp) (by rw [rS]; simp)
 have k1r := (row_setRow_other (w := W) S w.heap.size (u8s psk ++ [Value.bool g, .int .i64 r, .int .i64 k, .int .i64 p, .int .i64 d, .int .i64 now, .pointer a, .pointer b, .pointer c, .pointer talk, .int .i64 asked, .int .i64 (made + 1), .int .i64 last]).toArray (by omega)).trans rK
 rw [hW1] at k1r
 have z1 : W1.heap.size = w.heap.size + 1 := by rw [← hW1, setRow_size, zW]
 have b1 : BelowBut w.heap.size S w W1 := by rw [← hW1]; exact (BelowBut.of bW).trans (BelowBut.set _ _)
 clear hS zW
 go_wp2_with fail
 (try rw [hW])
 (try clear hW)
 go_wp2_with fail
 (try rw [hW1])
 (try clear hW1)
 clear rS rK
 have hzS : S < W1.heap.size := by omega
 have hzK : w.heap.size < W1.heap.size := by omega
 have HZ1 := Lib.hid z1
 clear z1
 have R1 := Lib.hid r1
 have K1 := Lib.hid k1r
 refine wp_region_beginR [(S, (u8s psk ++ [Value.bool g, .int .i64 r, .int .i64 k, .int .i64 p, .int .i64 d, .int .i64 now, .pointer a, .pointer b, .pointer c, .pointer talk, .int .i64 asked, .int .i64 (made + 1), .int .i64 last]).toArray), (w.heap.size, (u8s k1 ++ u8s k2).toArray)] rfl (by simp only [Rws]; (repeat (first | exact trivial | refine ⟨(by first | assumption | (simp [go_sem, *]; done)), (by first | omega | (simp; done) | (simp; omega)), ?_⟩))) (fun hS => ?_)
 refine qp 0 hS ?_
 refine qp 1 hS ?_
 refine qp 2 hS ?_
 refine qp 3 hS ?_
 refine qp 4 hS ?_
 refine qp 5 hS ?_
 refine qp 6 hS ?_
 refine qp 7 hS ?_
 refine qp 8 hS ?_
 refine qp 9 hS ?_
 refine qp 10 hS ?_
 refine qp 11 hS ?_
 refine qp 12 hS ?_
 refine qp 13 hS ?_
 refine qp 14 hS ?_
 refine qp 15 hS ?_
 refine qp 16 hS ?_
 refine qp 17 hS ?_
 refine wpAnyR_opX 18 (by kernel_rfl) (fun u3 hu3 => ?_)
 refine wpOp_step rfl (fun K hK => ?_)
 go_simp
 have hu : Below W1.heap.size W1 u3 := below_step (Below.drew (Below.refl _ _)) hu3
 have zu := hu.size
 obtain ⟨w4, hw4⟩ : ∃ y, u3.alloc (.cells (u8s k1 ++ (u8s k2 ++ Value.int .i64 (made + 1) :: (zeros 3 (Value.int .u64 0) ++ [Value.bool false, .int .i64 now, .int .i64 now, .int .i64 now]))).toArray 100) = y := ⟨_, rfl⟩
 have bu4 : Below u3.heap.size u3 w4 := by rw [← hw4]; exact Below.alloc (Below.refl _ _) (Nat.le_refl _) _
 have z4 : w4.heap.size = u3.heap.size + 1 := by rw [← hw4, alloc_sizeW]
 have rN : row w4 u3.heap.size = (u8s k1 ++ (u8s k2 ++ Value.int .i64 (made + 1) :: (zeros 3 (Value.int .u64 0) ++ [Value.bool false, .int .i64 now, .int .i64 now, .int .i64 now]))).toArray := by rw [← hw4]; exact row_alloc_at _ _ _ rfl
 have b14 : Below W1.heap.size W1 w4 := hu.trans (bu4.mono zu)
 have rS4 := (row_below b14 hzS).trans R1.out
 have rK4 := (row_below b14 hzK).trans K1.out
 (try rw [hw4])
 have hS : Rws [(S, (u8s psk ++ [Value.bool g, .int .i64 r, .int .i64 k, .int .i64 p, .int .i64 d, .int .i64 now, .pointer a, .pointer b, .pointer c, .pointer talk, .int .i64 asked, .int .i64 (made + 1), .int .i64 last]).toArray), (w.heap.size, (u8s k1 ++ u8s k2).toArray)] w4 := ⟨rS4, by omega, rK4, by omega, trivial⟩
 refine hK _ _ ⟨hS, ?_⟩
 clear hK K
 (try simp only [Act.put, List.setIfInBounds_toArray, List.set_cons_zero, List.set_cons_succ])
 refine qp 19 hS ?_
 refine wpAnyR_done (by kernel_rfl) (fun w5 b5 => ?_) _
 have z5 := b5.size
 have rN5 := (row_below b5 (by omega)).trans rN
 have rS5 := (row_below b5 (by omega)).trans rS4
 have B5 : BelowBut w.heap.size S w w5 := (b1.trans ((BelowBut.of b14).mono (by omega))).trans ((BelowBut.of b5).mono (by omega))
 clear hS hu3 hu bu4 b14 rS4 rK4
 go_wp2_with fail
 go_ret
 exact ⟨u3.heap.size, rfl, by omega, by omega, rN5, rS5, B5⟩
end
end
section
open Go.RowKit
section
attribute [local irreducible] sealL nonceL tagL maskL greetL hailT replyL oneK twoK
variable (psk sec : List UInt8) (g : Bool) (r k p d now asked made last : Int) (a b c talk : Option Addr) (S : Nat) (w : World) (hp : psk.length = 32)
include hp
set_option maxRecDepth 20000 in
set_option maxHeartbeats 4000000 in
theorem used_new (N : Nat) (hS : row w S = (⟨psk, g, r, k, p, d, now, none, b, c, talk, asked, made, last⟩ : LinkT).cells.toArray) :
  Calls Tryz.prog 80 #[.pointer (some ⟨S, 0, none⟩), .pointer (some ⟨N, 0, none⟩)] w fun e w' => e = .returned (.tuple #[]) ∧ row w' S = (⟨psk, g, r, k, p, d, now, (some ⟨N, 0, none⟩), b, c, talk, asked, made, last⟩ : LinkT).cells.toArray ∧ BelowBut w.heap.size S w w' := by
 unfold LinkT.cells at hS ⊢
 dsimp only at hS ⊢
 obtain ⟨W1, hW1⟩ : ∃ v, w.setRow S (u8s psk ++ [Value.bool g, .int .i64 r, .int .i64 k, .int .i64 p, .int .i64 d, .int .i64 now, .pointer (some ⟨N, 0, none⟩), .pointer b, .pointer c, .pointer talk, .int .i64 asked, .int .i64 made, .int .i64 last]).toArray = v := ⟨_, rfl⟩
 have r1 : row W1 S = (u8s psk ++ [Value.bool g, .int .i64 r, .int .i64 k, .int .i64 p, .int .i64 d, .int .i64 now, .pointer (some ⟨N, 0, none⟩), .pointer b, .pointer c, .pointer talk, .int .i64 asked, .int .i64 made, .int .i64 last]).toArray := by rw [← hW1]; exact row_setRow_same (by rw [hS]; simp) (by rw [hS]; simp)
 have b1 : BelowBut w.heap.size S w W1 := by rw [← hW1]; exact BelowBut.set _ _
 go_enter Tryz.func80, Tryz.ntmps80
 go_wp2_with fail
 (try rw [hW1])
 (try clear hW1)
 go_wp2_with fail
 go_end0
 exact ⟨rfl, r1, b1⟩
set_option maxRecDepth 20000 in
set_option maxHeartbeats 4000000 in
theorem greeted_ok (sa : List UInt8) (hsec : sec.length = 32) (hm : 0 ≤ made ∧ made ≤ 1000000) (hS : row w S = (⟨psk, false, r, k, p, d, now, none, b, c, talk, asked, made, last⟩ : LinkT).cells.toArray) :
  Calls Tryz.prog 51 #[.pointer (some ⟨S, 0, none⟩), .string ⟨(greetL psk sa).toArray⟩, .agg (u8s sec).toArray] w fun e w' => ∃ N q, e = .returned (.tuple #[.slice (some ⟨q, 0, none⟩) 1 1, .int .i64 0]) ∧ row w' q = #[.string ⟨(2 :: replyL psk sa sec).toArray⟩] ∧ w.heap.size ≤ q ∧ q < w'.heap.size ∧ row w' N = (newS15 (twoK psk sa sec) (oneK psk sa sec) (made + 1) now).cells.toArray ∧ w.heap.size ≤ N ∧ N < w'.heap.size ∧ N ≠ q ∧ row w' S = (⟨psk, false, r, k, p, d, now, none, (some ⟨N, 0, none⟩), c, talk, asked, (made + 1), last⟩ : LinkT).cells.toArray ∧ BelowBut w.heap.size S w w' := by
 have zS : S < w.heap.size := lt_of_row (i := 0) (by rw [hS]; simp [LinkT.cells, hp])
 have HRE := Lib.hid (fun w => reply_any psk sa sec w hp hsec)
 have hrl := replyL_length psk sa sec
 obtain ⟨rp, hrp⟩ : ∃ y, replyL psk sa sec = y := ⟨_, rfl⟩
 obtain ⟨K1, hK1⟩ : ∃ y, oneK psk sa sec = y := ⟨_, rfl⟩
 obtain ⟨K2, hK2⟩ : ∃ y, twoK psk sa sec = y := ⟨_, rfl⟩
 have hk1 : K1.length = 32 := by rw [← hK1]; exact oneK_length _ _ _
 have hk2 : K2.length = 32 := by rw [← hK2]; exact twoK_length _ _ _
 rw [hrp] at HRE hrl ⊢
 rw [hK1, hK2] at HRE ⊢
 obtain ⟨gr, hgr⟩ : ∃ y, greetL psk sa = y := ⟨_, rfl⟩
 rw [hgr] at HRE ⊢
 have HPR := Lib.hid (fun w => tunPrint12 w 2 (.inr rfl) rp hrl)
 rw [show byteI 2 = 2 from rfl] at HPR
 have HST := Lib.hid (fun w hS => started_any psk false r k p d now asked made last none b c talk S w hp K2 K1 hk2 hk1 hm hS)
 clear hrl hrp hK1 hK2 hgr hm
 unfold LinkT.cells at hS ⊢ HST
 dsimp only at hS ⊢ HST
 go_enter Tryz.func51, Tryz.ntmps51
 obtain ⟨W, hW⟩ : ∃ v, w.alloc (.cells (u8s sec).toArray 23) = v := ⟨_, rfl⟩
 have bW : Below w.heap.size w W := by rw [← hW]; exact Below.alloc (Below.refl _ _) (Nat.le_refl _) _
 have zW : W.heap.size = w.heap.size + 1 := by rw [← hW, alloc_sizeW]
 have rK : row W w.heap.size = (u8s sec).toArray := by rw [← hW]; exact row_alloc_at _ _ _ rfl
 have rS := (row_below bW zS).trans hS
 clear hS
 go_wp2_with fail
 (try rw [hW])
 (try clear hW)
 have HZW := Lib.hid zW
 have hzS : S < W.heap.size := by omega
 have hzK : w.heap.size < W.heap.size := by omega
 clear zW
 have R1 := Lib.hid rS
 refine wp_region_beginR [(S, (u8s psk ++ [Value.bool false, .int .i64 r, .int .i64 k, .int .i64 p, .int .i64 d, .int .i64 now, .pointer none, .pointer b, .pointer c, .pointer talk, .int .i64 asked, .int .i64 made, .int .i64 last]).toArray), (w.heap.size, (u8s sec).toArray)] rfl (by simp only [Rws]; (repeat (first | exact trivial | refine ⟨(by first | assumption | (simp [go_sem, *]; done)), (by first | omega | (simp; done) | (simp; omega)), ?_⟩))) (fun hS => ?_)
 refine qp 0 hS ?_
 refine qp 1 hS ?_
 refine qp 2 hS ?_
 refine qp 3 hS ?_
 refine qp 4 hS ?_
 refine qp 5 hS ?_
 refine qc 6 (v := ?_) hS ?_ ?_
 rotate_left
 ·
  intro w' hS'
  simp only [Rws] at hS'
  go_simp
  with_reducible refine (HRE.out _).mono ?_
  rintro e w'' ⟨rfl, hb⟩
  exact ⟨_, rfl, by rfl, hb⟩
 refine qp 7 hS ?_
 refine qp 8 hS ?_
 refine qp 9 hS ?_
 refine qp 10 hS ?_
 refine wpAnyR_opX 11 (by kernel_rfl) (fun u3 hu3 => ?_)
 refine wpOp_step rfl (fun K hK => ?_)
 go_simp
 have hu : Below W.heap.size W u3 := below_step (Below.drew (Below.refl _ _)) hu3
 have zu := hu.size
 obtain ⟨X, hX⟩ : ∃ y, u3.heap.size = y := ⟨_, rfl⟩
 obtain ⟨w4, hw4⟩ : ∃ y, u3.alloc (.cells (zeros 64 (Value.int .u8 0)).toArray 29) = y := ⟨_, rfl⟩
 have bu4 : Below u3.heap.size u3 w4 := by rw [← hw4]; exact Below.alloc (Below.refl _ _) (Nat.le_refl _) _
 have z4 : w4.heap.size = u3.heap.size + 1 := by rw [← hw4, alloc_sizeW]
 have rX4 : row w4 u3.heap.size = (zeros 64 (Value.int .u8 0)).toArray := by rw [← hw4]; exact row_alloc_at _ _ _ rfl
 have b14 : Below W.heap.size W w4 := hu.trans (bu4.mono zu)
 have rS4 := (row_below b14 hzS).trans R1.out
 have rK4 := (row_below b14 hzK).trans rK
 rw [hX] at rX4 z4 zu
 (try rw [hX])
 (try rw [hw4])
 have hS : Rws [(S, (u8s psk ++ [Value.bool false, .int .i64 r, .int .i64 k, .int .i64 p, .int .i64 d, .int .i64 now, .pointer none, .pointer b, .pointer c, .pointer talk, .int .i64 asked, .int .i64 made, .int .i64 last]).toArray), (w.heap.size, (u8s sec).toArray)] w4 := ⟨rS4, by omega, rK4, by omega, trivial⟩
 refine hK _ _ ⟨hS, ?_⟩
 clear hK K
 (try simp only [Act.put, List.setIfInBounds_toArray, List.set_cons_zero, List.set_cons_succ])
 refine qp 12 hS ?_
 refine wpAnyR_opX 13 (by kernel_rfl) (fun u5 hu5 => ?_)
 refine wpOp_step rfl (fun K hK => ?_)
 have zu5 := hu5.size
 have rX5 := (row_below hu5 (show X < w4.heap.size by omega)).trans rX4
 have rS5 := (row_below hu5 (by omega)).trans rS4
 have rK5 := (row_below hu5 (by omega)).trans rK4
 go_simp
 obtain ⟨w6, hw6⟩ : ∃ y, u5.setRow X (u8s K2 ++ u8s K1).toArray = y := ⟨_, rfl⟩
 have rX6 : row w6 X = (u8s K2 ++ u8s K1).toArray := by rw [← hw6]; exact row_setRow_same (by rw [rX5]; simp) (by rw [rX5]; simp [hk1, hk2])
 have rS6 := (row_setRow_other (w := u5) X S (u8s K2 ++ u8s K1).toArray (by omega)).trans rS5
 have rK6 := (row_setRow_other (w := u5) X w.heap.size (u8s K2 ++ u8s K1).toArray (by omega)).trans rK5
 have z6 : w6.heap.size = u5.heap.size := by rw [← hw6, setRow_size]
 have b6 : Below W.heap.size W w6 := by rw [← hw6]; exact Below.setRow (b14.trans (hu5.mono (by omega))) (by omega) _
 rw [hw6] at rS6 rK6
 (try rw [hw6])
 have hS : Rws [(S, (u8s psk ++ [Value.bool false, .int .i64 r, .int .i64 k, .int .i64 p, .int .i64 d, .int .i64 now, .pointer none, .pointer b, .pointer c, .pointer talk, .int .i64 asked, .int .i64 made, .int .i64 last]).toArray), (w.heap.size, (u8s sec).toArray)] w6 := ⟨rS6, by omega, rK6, by omega, trivial⟩
 refine hK _ _ ⟨hS, ?_⟩
 clear hK K
 (try simp only [Act.put, List.setIfInBounds_toArray, List.set_cons_zero, List.set_cons_succ])
 refine qp 14 hS ?_
 refine wpAnyR_done (by kernel_rfl) (fun w7 b7 => ?_) _
 have z7 := b7.size
 have rX7 := (row_below b7 (by omega)).trans rX6
 have rS7 := (row_below b7 (by omega)).trans rS6
 have B7 : Below w.heap.size w w7 := bW.trans ((b6.trans (b7.mono (by omega))).mono bW.size)
 have zX7 : X < w7.heap.size := by omega
 have hXS : X ≠ S := by omega
 have hXw : w.heap.size ≤ X := by have := HZW.out; omega
 have hzS7 : S < w7.heap.size := by omega
 have RS7 := Lib.hid rS7
 clear hS hu3 hu bu4 b14 rS4 rK4 rX4 hu5 rX5 rS5 rK5 rX6 rS6 rK6 b6 b7 z7 z6 zu5 z4 zu hw4 hw6 hX bW rK rS hzS hzK
 go_wp2_with fail
 clear rS7
 refine wp_region_beginR [(X, (u8s K2 ++ u8s K1).toArray)] rfl (by simp only [Rws]; (repeat (first | exact trivial | refine ⟨(by first | assumption | (simp [go_sem, *]; done)), (by first | omega | (simp; done) | (simp; omega)), ?_⟩))) (fun hS => ?_)
 refine qp 0 hS ?_
 refine qp 1 hS ?_
 refine qp 2 hS ?_
 refine qp 4 hS ?_
 refine qp 5 hS ?_
 refine wpAnyR_opX 3 (by kernel_rfl) (fun u8 hu8 => ?_)
 refine wpOp_step rfl (fun K hK => ?_)
 clear hS
 go_simp
 have hv : Below w7.heap.size w7 u8 := below_step (Below.drew (Below.refl _ _)) hu8
 have zv := hv.size
 (with_reducible refine (HST.out _ ((row_below hv hzS7).trans RS7.out)).mono ?_)
 rintro e u9 ⟨N, rfl, gN, zN, rN, rS9, b9⟩
 have z9 := b9.size
 have rX9 := (b9.row (show X < u8.heap.size by omega) hXS).trans ((row_below hv zX7).trans rX7)
 have hS : Rws [(X, (u8s K2 ++ u8s K1).toArray)] u9 := ⟨rX9, by omega, trivial⟩
 refine hK _ _ ⟨hS, ?_⟩
 clear hK K
 (try simp only [Act.put, List.setIfInBounds_toArray, List.set_cons_zero, List.set_cons_succ])
 refine qp 6 hS ?_
 refine wpAnyR_opX 7 (by kernel_rfl) (fun u10 hu10 => ?_)
 refine wpOp_step rfl (fun K hK => ?_)
 have z10 := hu10.size
 have rS10 := (row_below hu10 (show S < u9.heap.size by omega)).trans rS9
 have rX10 := (row_below hu10 (show X < u9.heap.size by omega)).trans rX9
 have rN10 := (row_below hu10 zN).trans rN
 obtain ⟨w11, hw11⟩ : ∃ y, u10.setRow S (u8s psk ++ [Value.bool false, .int .i64 r, .int .i64 k, .int .i64 p, .int .i64 d, .int .i64 now, .pointer none, .pointer (some ⟨N, 0, none⟩), .pointer c, .pointer talk, .int .i64 asked, .int .i64 (made + 1), .int .i64 last]).toArray = y := ⟨_, rfl⟩
 have r11 : row w11 S = (u8s psk ++ [Value.bool false, .int .i64 r, .int .i64 k, .int .i64 p, .int .i64 d, .int .i64 now, .pointer none, .pointer (some ⟨N, 0, none⟩), .pointer c, .pointer talk, .int .i64 asked, .int .i64 (made + 1), .int .i64 last]).toArray := by rw [← hw11]; exact row_setRow_same (by rw [rS10]; simp) (by rw [rS10]; simp)
 have rX11 := (row_setRow_other (w := u10) S X (u8s psk ++ [Value.bool false, .int .i64 r, .int .i64 k, .int .i64 p, .int .i64 d, .int .i64 now, .pointer none, .pointer (some ⟨N, 0, none⟩), .pointer c, .pointer talk, .int .i64 asked, .int .i64 (made + 1), .int .i64 last]).toArray hXS).trans rX10
 have rN11 := (row_setRow_other (w := u10) S N (u8s psk ++ [Value.bool false, .int .i64 r, .int .i64 k, .int .i64 p, .int .i64 d, .int .i64 now, .pointer none, .pointer (some ⟨N, 0, none⟩), .pointer c, .pointer talk, .int .i64 asked, .int .i64 (made + 1), .int .i64 last]).toArray (by omega)).trans rN10
 have z11 : w11.heap.size = u10.heap.size := by rw [← hw11, setRow_size]
 have b79 : BelowBut w7.heap.size S w7 u9 := (BelowBut.of hv).trans (b9.mono zv)
 have b711 : BelowBut w7.heap.size S w7 w11 := by rw [← hw11]; exact (b79.trans ((BelowBut.of hu10).mono (by omega))).trans (BelowBut.set _ _)
 rw [hw11] at rX11 rN11
 go_simp
 (try rw [hw11])
 have hS : Rws [(X, (u8s K2 ++ u8s K1).toArray)] w11 := ⟨rX11, by omega, trivial⟩
 refine hK _ _ ⟨hS, ?_⟩
 clear hK K
 (try simp only [Act.put, List.setIfInBounds_toArray, List.set_cons_zero, List.set_cons_succ])
 refine wpAnyR_done (by kernel_rfl) (fun w12 b12 => ?_) _
 have z12 := b12.size
 have r12 := (row_below b12 (by omega)).trans r11
 have rN12 := (row_below b12 (by omega)).trans rN11
 have B12 : BelowBut w.heap.size S w w12 := (BelowBut.of B7).trans ((b711.trans ((BelowBut.of b12).mono (by omega))).mono B7.size)
 have gN2 : w7.heap.size ≤ N := by omega
 have zB7 := B7.size
 have zN12 : N < w12.heap.size := by omega
 have zS12 : S < w12.heap.size := by omega
 clear hS hu8 hv b9 hu10 hw11 b79 b711 b12 rS9 rX9 rS10 rX10 rN10 rX11 rN11 r11 rN z10 z11 z12 z9 zv
 go_wp2_with fail
 (with_reducible refine (HPR.out _).mono ?_)
 rintro e w13 ⟨rfl, b13⟩
 have z13 := b13.size
 have r13 := (row_below b13 zS12).trans r12
 have rN13 := (row_below b13 zN12).trans rN12
 have B13 := B12.trans ((BelowBut.of b13).mono B12.size)
 go_wp2_with fail
 go_ret2
 exact ⟨N, w13.heap.size, rfl, row_alloc_at _ _ _ rfl, B13.size, by rw [alloc_sizeW]; omega, by rw [row_alloc_past _ _ (by omega)]; exact rN13, by omega, by rw [alloc_sizeW]; omega, by omega, by rw [row_alloc_past _ _ (by omega)]; exact r13, B13.trans ⟨rfl, rfl, rfl, by rw [alloc_sizeW]; omega, fun q hq _ => Below.heap_alloc _ _ _ (by have := B13.size; omega)⟩⟩
end
end
section
open Go.RowKit
section
attribute [local irreducible] sealL nonceL tagL maskL greetL hailT replyL oneK twoK
variable (psk sec : List UInt8) (g : Bool) (r k p d now asked made last : Int) (a b c talk : Option Addr) (S : Nat) (w : World) (hp : psk.length = 32)
include hp
set_option maxRecDepth 20000 in
set_option maxHeartbeats 4000000 in
theorem answered_ok (sa sb : List UInt8) (T : Nat) (hsa : sa.length = 32) (hsb : sb.length = 32) (hm : 0 ≤ made ∧ made ≤ 1000000) (hTS : T ≠ S) (hS : row w S = (⟨psk, true, r, k, p, d, now, none, b, c, (some ⟨T, 0, none⟩), asked, made, last⟩ : LinkT).cells.toArray) (hT : row w T = (hailT psk sa).cells.toArray) :
  Calls Tryz.prog 52 #[.pointer (some ⟨S, 0, none⟩), .string ⟨(replyL psk sa sb).toArray⟩] w fun e w' => ∃ N q, e = .returned (.tuple #[.slice (some ⟨q, 0, none⟩) 1 1, .int .i64 0]) ∧ row w' q = #[.string ⟨(gramL (oneK psk sa sb) 0 [0]).toArray⟩] ∧ w.heap.size ≤ q ∧ q < w'.heap.size ∧ row w' N = ({ newS15 (oneK psk sa sb) (twoK psk sa sb) (made + 1) now with count := 1 } : SessT).cells.toArray ∧ w.heap.size ≤ N ∧ N < w'.heap.size ∧ N ≠ q ∧ row w' S = (⟨psk, true, r, k, p, d, now, (some ⟨N, 0, none⟩), b, c, none, asked, (made + 1), last⟩ : LinkT).cells.toArray ∧ BelowBut w.heap.size S w w' := by
 have zS : S < w.heap.size := lt_of_row (i := 0) (by rw [hS]; simp [LinkT.cells, hp])
 have HEN := Lib.hid (ends_any psk sa sb T w hsa hsb hT)
 obtain ⟨rp, hrp⟩ : ∃ y, replyL psk sa sb = y := ⟨_, rfl⟩
 obtain ⟨K1, hK1⟩ : ∃ y, oneK psk sa sb = y := ⟨_, rfl⟩
 obtain ⟨K2, hK2⟩ : ∃ y, twoK psk sa sb = y := ⟨_, rfl⟩
 have hk1 : K1.length = 32 := by rw [← hK1]; exact oneK_length _ _ _
 have hk2 : K2.length = 32 := by rw [← hK2]; exact twoK_length _ _ _
 rw [hrp] at HEN ⊢
 rw [hK1, hK2] at HEN
 rw [hK1, hK2]
 have HST := Lib.hid (fun w hS => started_any psk true r k p d now asked made last none b c none S w hp K1 K2 hk1 hk2 hm hS)
 have HUS := Lib.hid (fun N w hS => used_new psk true r k p d now asked (made + 1) last b c none S w hp N hS)
 have HID := Lib.hid (fun N w hNS hS hT => idle_any psk true r k p d now asked (made + 1) last N b c none S w hp (newS15 K1 K2 (made + 1) now) ⟨hk1, hk2⟩ (by show (0 : Nat) < 1099511627776; decide) hNS hS hT)
 clear hrp hK1 hK2 hm hT
 unfold LinkT.cells at hS HST HUS
 dsimp only at hS HST HUS
 go_enter Tryz.func52, Tryz.ntmps52
 go_wp2_with fail
 refine (HEN.out).mono ?_
 rintro e w1 ⟨rfl, b1⟩
 have z1 := b1.size
 have rS1 := (row_below b1 zS).trans hS
 obtain ⟨w2, hw2⟩ : ∃ y, w1.alloc (.cells (u8s K1 ++ u8s K2).toArray 29) = y := ⟨_, rfl⟩
 have b2 : Below w1.heap.size w1 w2 := by rw [← hw2]; exact Below.alloc (Below.refl _ _) (Nat.le_refl _) _
 have z2 : w2.heap.size = w1.heap.size + 1 := by rw [← hw2, alloc_sizeW]
 have rX2 : row w2 w1.heap.size = (u8s K1 ++ u8s K2).toArray := by rw [← hw2]; exact row_alloc_at _ _ _ rfl
 have rS2 := (row_below b2 (by omega)).trans rS1
 obtain ⟨w3, hw3⟩ : ∃ y, w2.setRow S (u8s psk ++ [Value.bool true, .int .i64 r, .int .i64 k, .int .i64 p, .int .i64 d, .int .i64 now, .pointer none, .pointer b, .pointer c, .pointer none, .int .i64 asked, .int .i64 made, .int .i64 last]).toArray = y := ⟨_, rfl⟩
 have rS3 : row w3 S = (u8s psk ++ [Value.bool true, .int .i64 r, .int .i64 k, .int .i64 p, .int .i64 d, .int .i64 now, .pointer none, .pointer b, .pointer c, .pointer none, .int .i64 asked, .int .i64 made, .int .i64 last]).toArray := by rw [← hw3]; exact row_setRow_same (by rw [rS2]; simp) (by rw [rS2]; simp)
 have rX3 := (row_setRow_other (w := w2) S w1.heap.size (u8s psk ++ [Value.bool true, .int .i64 r, .int .i64 k, .int .i64 p, .int .i64 d, .int .i64 now, .pointer none, .pointer b, .pointer c, .pointer none, .int .i64 asked, .int .i64 made, .int .i64 last]).toArray (by omega)).trans rX2
 have z3 : w3.heap.size = w2.heap.size := by rw [← hw3, setRow_size]
 have B3 : BelowBut w.heap.size S w w3 := by rw [← hw3]; exact (BelowBut.of (b1.trans (b2.mono z1))).trans (BelowBut.set _ _)
 rw [hw3] at rX3
 have hzX : w1.heap.size < w3.heap.size := by omega
 have hzS3 : S < w3.heap.size := by omega
 have HZ3 := Lib.hid z3
 have HZ2 := Lib.hid z2
 clear z3 z2 hS b1 b2
 go_wp2_with fail
 (try rw [hw2])
 (try clear hw2)
 go_wp2_with fail
 (try rw [hw3])
 (try clear hw3)
 clear rS1 rS2 rX2
 go_wp2_with fail
 (with_reducible refine (HST.out _ rS3).mono ?_)
 rintro e w4 ⟨N, rfl, gN, zN, rN, rS4, b4⟩
 have z4 := b4.size
 go_wp2_with fail
 (with_reducible refine (HUS.out N _ rS4).mono ?_)
 rintro e w5 ⟨rfl, rS5, b5⟩
 have z5 := b5.size
 have hNS : N ≠ S := by omega
 have rN5 := (b5.row zN hNS).trans rN
 have B5 := B3.trans ((b4.trans (b5.mono z4)).mono B3.size)
 clear rS4 rN b4 b5
 go_wp2_with fail
 refine (HID.out N _ hNS ?_ rN5).mono ?_
 ·
  exact rS5
 rintro e w6 ⟨q, rfl, rq, gq, zq, rN6, b6⟩
 have rS6 := (b6.row (show S < w5.heap.size by omega) (Ne.symm hNS)).trans rS5
 have zw := B3.size
 have B6 : BelowBut w.heap.size S w w6 := B5.trans ⟨b6.os, b6.tape, b6.output, b6.size, fun i hi hn => b6.block i (by omega) (by omega)⟩
 clear b6
 go_wp2_with fail
 go_ret2
 exact ⟨N, q, rfl, rq, by omega, zq, rN6, by omega, by omega, by omega, rS6, B6⟩
end
end
section
open Go.RowKit
theorem seenHas_no (t b n : Nat) (w : World) : Calls Tryz.prog 145 #[.agg #[.int .u64 (t : Int), .int .u64 (b : Int), .bool false], .int .u64 (n : Int)] w fun e w' => e = .returned (.bool false) ∧ Below w.heap.size w w' := by
 go_enter Tryz.func145, Tryz.ntmps145
 go_wp2_with fail
 go_ret
 exact ⟨rfl, by (repeat (first | exact Below.refl _ _ | refine Below.al ?_ _ | refine Below.drew ?_ | refine Below.sr ?_ _ | refine Below.sc ?_ _))⟩
section
variable (s : SessT) (A : Nat) (w : World) (hs : s.ok) (hso : s.some = false) (hA : row w A = s.cells.toArray)
include hs hso hA
set_option maxRecDepth 20000 in
set_option maxHeartbeats 2000000 in
theorem winMay_new (n : Nat) : Calls Tryz.prog 111 #[.pointer (some ⟨A, 66, none⟩), .int .u64 (n : Int)] w fun e w' => e = .returned (.int .i64 0) ∧ Below w.heap.size w w' := by
 obtain ⟨hk1, hk2⟩ := hs
 obtain ⟨k1, k2, id, m, top, bits, sm, born, sent, taken⟩ := s
 dsimp only at hso hk1 hk2
 subst hso
 unfold SessT.cells at hA
 dsimp only at hA
 have HH := Lib.hid (fun w => seenHas_no top bits n w)
 go_enter Tryz.func111, Tryz.ntmps111
 go_wp2_with fail
 refine (HH.out _).mono ?_
 rintro e w1 ⟨rfl, b1⟩
 go_wp2_with fail
 go_ret
 exact ⟨rfl, b1⟩
set_option maxRecDepth 20000 in
set_option maxHeartbeats 2000000 in
theorem winTake_new (n : Nat) : Calls Tryz.prog 81 #[.pointer (some ⟨A, 66, none⟩), .int .u64 (n : Int)] w fun e w' => e = .returned (.int .i64 0) ∧ row w' A = ({ s with top := n, bits := 1, some := true } : SessT).cells.toArray ∧ BelowBut w.heap.size A w w' := by
 have HM := Lib.hid (winMay_new s A w hs hso hA n)
 have zA : A < w.heap.size := lt_of_row (i := 0) (by rw [hA]; simp [SessT.cells, hs.k1, hs.k2])
 obtain ⟨hk1, hk2⟩ := hs
 obtain ⟨k1, k2, id, m, top, bits, sm, born, sent, taken⟩ := s
 dsimp only at hso hk1 hk2 ⊢
 subst hso
 unfold SessT.cells at hA ⊢
 dsimp only at hA ⊢
 go_enter Tryz.func81, Tryz.ntmps81
 go_wp2_with fail
 refine HM.out.mono ?_
 rintro e w1 ⟨rfl, b1⟩
 have rA1 := (row_below b1 zA).trans hA
 obtain ⟨w2, hw2⟩ : ∃ y, w1.setRow A (u8s k1 ++ (u8s k2 ++ [Value.int .i64 id, .int .u64 (m : Int), .int .u64 (n : Int), .int .u64 1, .bool true, .int .i64 born, .int .i64 sent, .int .i64 taken])).toArray = y := ⟨_, rfl⟩
 have rA2 : row w2 A = (u8s k1 ++ (u8s k2 ++ [Value.int .i64 id, .int .u64 (m : Int), .int .u64 (n : Int), .int .u64 1, .bool true, .int .i64 born, .int .i64 sent, .int .i64 taken])).toArray := by rw [← hw2]; exact row_setRow_same (by rw [rA1]; simp; omega) (by rw [rA1]; simp)
 have B2 : BelowBut w.heap.size A w w2 := by rw [← hw2]; exact (BelowBut.of b1).trans (BelowBut.set _ _)
 clear hA
 go_wp2_with fail
 (try rw [hw2])
 (try clear hw2)
 go_wp2_with fail
 go_ret
 exact ⟨rfl, rA2, B2⟩
end
end
section
open Go.RowKit
section
attribute [local irreducible] sealL nonceL tagL maskL greetL hailT replyL oneK twoK
variable (psk sec : List UInt8) (g : Bool) (r k p d now asked made last : Int) (c talk : Option Addr) (S N : Nat) (w : World) (hp : psk.length = 32)
include hp
set_option maxRecDepth 20000 in
set_option maxHeartbeats 8000000 in
theorem opened_new (s : SessT) (hs : s.ok) (hso : s.some = false) (n : Nat) (text : List UInt8) (ht : text.length ≤ 1000) (hNS : N ≠ S) (hS : row w S = (⟨psk, g, r, k, p, d, now, none, (some ⟨N, 0, none⟩), c, talk, asked, made, last⟩ : LinkT).cells.toArray) (hN : row w N = s.cells.toArray) :
  Calls Tryz.prog 53 #[.pointer (some ⟨S, 0, none⟩), .agg (gramV 3 n (sealL s.k2 (nonceL n) [] text)).toArray] w fun e w' => e = .returned (.tuple #[.string ⟨text.toArray⟩, .int .i64 0]) ∧ row w' N = ({ s with top := n, bits := 1, some := true, taken := now } : SessT).cells.toArray ∧ row w' S = (⟨psk, g, r, k, p, d, now, (some ⟨N, 0, none⟩), none, c, talk, asked, made, s.id⟩ : LinkT).cells.toArray ∧ BelowS w.heap.size [S, N] w w' := by
 have zS : S < w.heap.size := lt_of_row (i := 0) (by rw [hS]; simp [LinkT.cells, hp])
 have zN : N < w.heap.size := lt_of_row (i := 0) (by rw [hN]; simp [SessT.cells, hs.k1, hs.k2])
 have HWI := Lib.hid (fun w h => winTake_new s N w hs hso h n)
 obtain ⟨hk1, hk2⟩ := hs
 obtain ⟨k1, k2, id, m, top, bits, sm, born, sent, taken⟩ := s
 dsimp only at hso hk1 hk2 HWI ⊢
 subst hso
 have HOP : ∀ w, Calls Tryz.prog 60 #[.agg (u8s k2).toArray, .string ⟨(nonceL n).toArray⟩, .string ⟨([] : List UInt8).toArray⟩, .string ⟨(sealL k2 (nonceL n) [] text).toArray⟩] w fun e w' => e = .returned (.tuple #[.string ⟨text.toArray⟩, .int .i64 0]) ∧ Below w.heap.size w w' := fun w => by
  have h := open_yes k2 (nonceL n) [] (maskL k2 1 (nonceL n) text) (tagL k2 (nonceL n) [] (maskL k2 1 (nonceL n) text)) w hk2 (nonceL_length n) (by simp) (by rw [maskL_length]; omega) (tagL_length _ _ _ _) rfl
  rw [maskL_back] at h
  unfold sealL
  exact h
 obtain ⟨body, hbody⟩ : ∃ y, sealL k2 (nonceL n) [] text = y := ⟨_, rfl⟩
 rw [hbody] at HOP ⊢
 have HOP2 := Lib.hid HOP
 have HNO := Lib.hid (fun w => nonce_any n w)
 have HUS := Lib.hid (fun w hS => used_new psk g r k p d now asked made id none c talk S w hp N hS)
 clear hbody HOP ht
 unfold gramV
 unfold LinkT.cells at hS ⊢ HUS
 unfold SessT.cells at hN ⊢ HWI
 dsimp only at hS hN HUS HWI ⊢
 go_enter Tryz.func53, Tryz.ntmps53
 obtain ⟨W, hW⟩ : ∃ v, w.alloc (.cells #[Value.int .i64 3, .int .u64 (n : Int), .string ⟨body.toArray⟩] 68) = v := ⟨_, rfl⟩
 have bW : Below w.heap.size w W := by rw [← hW]; exact Below.alloc (Below.refl _ _) (Nat.le_refl _) _
 have zW : W.heap.size = w.heap.size + 1 := by rw [← hW, alloc_sizeW]
 have rG : row W w.heap.size = #[Value.int .i64 3, .int .u64 (n : Int), .string ⟨body.toArray⟩] := by rw [← hW]; exact row_alloc_at _ _ _ rfl
 have rS := (row_below bW zS).trans hS
 have rN := (row_below bW zN).trans hN
 have hI0 := fun W => run_index_all none (some ⟨N, 0, none⟩) c 0 none rfl W
 have hI1 := fun W => run_index_all none (some ⟨N, 0, none⟩) c 1 (some ⟨N, 0, none⟩) rfl W
 simp only [show ((0 : Nat) : Int) = 0 from rfl, show ((1 : Nat) : Int) = 1 from rfl] at hI0 hI1
 clear hS hN
 go_wp2_with fail
 (try rw [hW])
 (try clear hW)
 refine wp_loop_rounds 4 ?_
 rw [rounds_succ]
 go_wp2_with fail
 rw [rounds_succ]
 go_wp2_with fail
 have hzS : S < W.heap.size := by omega
 have hzN : N < W.heap.size := by omega
 have hzG : w.heap.size < W.heap.size := by omega
 have HZW := Lib.hid zW
 clear zW hI0 hI1
 have RS := Lib.hid rS
 refine wp_region_beginR [(N, (u8s k1 ++ (u8s k2 ++ [Value.int .i64 id, .int .u64 (m : Int), .int .u64 (top : Int), .int .u64 (bits : Int), .bool false, .int .i64 born, .int .i64 sent, .int .i64 taken])).toArray), (w.heap.size, #[Value.int .i64 3, .int .u64 (n : Int), .string ⟨body.toArray⟩])] rfl (by simp only [Rws]; (repeat (first | exact trivial | refine ⟨(by first | assumption | (simp [go_sem, *]; done)), (by first | omega | (simp; done) | (simp; omega)), ?_⟩))) (fun hS => ?_)
 refine qp 0 hS ?_
 refine qp 1 hS ?_
 refine qp 2 hS ?_
 refine qp 3 hS ?_
 refine qp 4 hS ?_
 refine qp 5 hS ?_
 refine qp 6 hS ?_
 refine qp 8 hS ?_
 refine qp 9 hS ?_
 refine qc 7 (v := ?_) hS ?_ ?_
 rotate_left
 ·
  intro w' hS'
  simp only [Rws] at hS'
  go_simp
  with_reducible refine (HNO.out _).mono ?_
  rintro e w'' ⟨rfl, hb⟩
  exact ⟨_, rfl, by rfl, hb⟩
 refine qc 10 (v := ?_) hS ?_ ?_
 rotate_left
 ·
  intro w' hS'
  simp only [Rws] at hS'
  go_simp
  with_reducible refine (HOP2.out _).mono ?_
  rintro e w'' ⟨rfl, hb⟩
  exact ⟨_, rfl, by rfl, hb⟩
 refine qp 11 hS ?_
 refine qp 12 hS ?_
 refine qp 13 hS ?_
 refine qp 14 hS ?_
 refine qp 15 hS ?_
 refine wpAnyR_done (by kernel_rfl) (fun w2 b2 => ?_) _
 replace b2 : Below (W).heap.size (W) w2 := below_step (Below.drew (Below.refl _ _)) b2
 have z2 := b2.size
 have zg2 : w.heap.size < w2.heap.size := by omega
 have rS2 := (row_below b2 hzS).trans RS.out
 have rN2 := (row_below b2 hzN).trans rN
 have rG2 := (row_below b2 hzG).trans rG
 have B2 : Below w.heap.size w w2 := bW.trans (b2.mono bW.size)
 have hzS2 : S < w2.heap.size := by omega
 have hzN2 : N < w2.heap.size := by omega
 clear hS rS rN rG b2 bW z2 hzS hzN
 go_wp2_with fail
 have RS2 := Lib.hid rS2
 have RN2 := Lib.hid rN2
 clear rS2 rN2
 refine wp_region_beginR [(w.heap.size, #[Value.int .i64 3, .int .u64 (n : Int), .string ⟨body.toArray⟩])] rfl (by simp only [Rws]; (repeat (first | exact trivial | refine ⟨(by first | assumption | (simp [go_sem, *]; done)), (by first | omega | (simp; done) | (simp; omega)), ?_⟩))) (fun hS => ?_)
 refine qp 0 hS ?_
 refine qp 1 hS ?_
 refine qp 2 hS ?_
 refine qp 3 hS ?_
 refine qp 4 hS ?_
 refine wpAnyR_opX 5 (by kernel_rfl) (fun u3 hu3 => ?_)
 refine wpOp_step rfl (fun K hK => ?_)
 clear hS
 go_simp
 have hv : Below w2.heap.size w2 u3 := below_step (Below.drew (Below.refl _ _)) hu3
 have zv := hv.size
 (with_reducible refine (HWI.out _ ((row_below hv hzN2).trans RN2.out)).mono ?_)
 rintro e u4 ⟨rfl, rN4, b4⟩
 have z4 := b4.size
 have rG4 := (b4.row (show w.heap.size < u3.heap.size by omega) (by omega)).trans ((row_below hv zg2).trans rG2)
 have rS4 := (b4.row (show S < u3.heap.size by omega) (Ne.symm hNS)).trans ((row_below hv hzS2).trans RS2.out)
 have hS : Rws [(w.heap.size, #[Value.int .i64 3, .int .u64 (n : Int), .string ⟨body.toArray⟩])] u4 := ⟨rG4, by omega, trivial⟩
 refine hK _ _ ⟨hS, ?_⟩
 clear hK K
 (try simp only [Act.put, List.setIfInBounds_toArray, List.set_cons_zero, List.set_cons_succ])
 refine qp 6 hS ?_
 refine wpAnyR_done (by kernel_rfl) (fun w5 b5 => ?_) _
 have z5 := b5.size
 have rS5 := (row_below b5 (show S < u4.heap.size by omega)).trans rS4
 have rN5 := (row_below b5 (show N < u4.heap.size by omega)).trans rN4
 have B5 : BelowS w.heap.size [S, N] w w5 := (BelowS.of B2).trans (((BelowS.of hv).trans ((BelowS.one b4 (by simp)).mono zv) |>.trans ((BelowS.of b5).mono (by omega))).mono B2.size)
 have hzS5 : S < w5.heap.size := by omega
 have hzN5 : N < w5.heap.size := by omega
 clear hS hu3 hv b4 b5 rN4 rS4 rG4 rG2 z4 z5 zv
 go_wp2_with fail
 refine wp_region_beginK 12 [(S, (u8s psk ++ [Value.bool g, .int .i64 r, .int .i64 k, .int .i64 p, .int .i64 d, .int .i64 now, .pointer none, .pointer (some ⟨N, 0, none⟩), .pointer c, .pointer talk, .int .i64 asked, .int .i64 made, .int .i64 last]).toArray), (N, (u8s k1 ++ (u8s k2 ++ [Value.int .i64 id, .int .u64 (m : Int), .int .u64 (n : Int), .int .u64 1, .bool true, .int .i64 born, .int .i64 sent, .int .i64 taken])).toArray)] [] rfl (by simp only [Rws]; (repeat (first | exact trivial | refine ⟨(by first | assumption | (simp [go_sem, *]; done)), (by first | omega | (simp; done) | (simp; omega)), ?_⟩))) (fun hS => ?_)
 refine kp 0 hS ?_
 refine wpAnyK_both (i := 1) (v := ?_) (by simp only [List.getElem?_toArray, List.getElem?_cons_succ, List.getElem?_cons_zero]; rfl) (by kernel_rfl) (by kernel_rfl) (by kernel_rfl) (by decide) (by first | exact fun _ _ _ h => h | exact fun _ _ _ h => by cases h.1) (Rws.grow _) (Rws.grow _) (by intro w h; simp only [Rws] at h ⊢; (try simp only [h, and_self])) (Or.inl ⟨by rfl, ?_⟩) hS ?_
 rotate_left
 ·
  intro w' hS'
  simp only [Rws] at hS'
  go_simp
  refine ⟨?_, Below.refl _ _⟩
  rfl
 (try simp only [Act.put, List.setIfInBounds_toArray, List.set_cons_zero, List.set_cons_succ])
 refine kp 2 hS ?_
 refine kp 3 hS ?_
 refine kp 4 hS ?_
 refine kp 5 hS ?_
 refine wpAnyK_both (i := 6) (v := ?_) (by simp only [List.getElem?_toArray, List.getElem?_cons_succ, List.getElem?_cons_zero]; rfl) (by kernel_rfl) (by kernel_rfl) (by kernel_rfl) (by decide) (by first | exact fun _ _ _ h => h | exact fun _ _ _ h => by cases h.1) (Rws.grow _) (Rws.grow _) (by intro w h; simp only [Rws] at h ⊢; (try simp only [h, and_self])) (Or.inl ⟨by rfl, ?_⟩) hS ?_
 rotate_left
 ·
  intro w' hS'
  simp only [Rws] at hS'
  go_simp
  refine ⟨?_, Below.refl _ _⟩
  rfl
 (try simp only [Act.put, List.setIfInBounds_toArray, List.set_cons_zero, List.set_cons_succ])
 refine wpAnyK_both (i := 7) (v := ?_) (by simp only [List.getElem?_toArray, List.getElem?_cons_succ, List.getElem?_cons_zero]; rfl) (by kernel_rfl) (by kernel_rfl) (by kernel_rfl) (by decide) (by first | exact fun _ _ _ h => h | exact fun _ _ _ h => by cases h.1) (Rws.grow _) (Rws.grow _) (by intro w h; simp only [Rws] at h ⊢; (try simp only [h, and_self])) (Or.inl ⟨by rfl, ?_⟩) hS ?_
 rotate_left
 ·
  intro w' hS'
  simp only [Rws] at hS'
  go_simp
  refine ⟨?_, Below.refl _ _⟩
  rfl
 (try simp only [Act.put, List.setIfInBounds_toArray, List.set_cons_zero, List.set_cons_succ])
 refine wpAnyK_both (i := 8) (v := ?_) (by simp only [List.getElem?_toArray, List.getElem?_cons_succ, List.getElem?_cons_zero]; rfl) (by kernel_rfl) (by kernel_rfl) (by kernel_rfl) (by decide) (by first | exact fun _ _ _ h => h | exact fun _ _ _ h => by cases h.1) (Rws.grow _) (Rws.grow _) (by intro w h; simp only [Rws] at h ⊢; (try simp only [h, and_self])) (Or.inl ⟨by rfl, ?_⟩) hS ?_
 rotate_left
 ·
  intro w' hS'
  simp only [Rws] at hS'
  go_simp
  refine ⟨?_, Below.refl _ _⟩
  rfl
 (try simp only [Act.put, List.setIfInBounds_toArray, List.set_cons_zero, List.set_cons_succ])
 refine kp 9 hS ?_
 refine wpAnyK_both (i := 10) (v := ?_) (by simp only [List.getElem?_toArray, List.getElem?_cons_succ, List.getElem?_cons_zero]; rfl) (by kernel_rfl) (by kernel_rfl) (by kernel_rfl) (by decide) (by first | exact fun _ _ _ h => h | exact fun _ _ _ h => by cases h.1) (Rws.grow _) (Rws.grow _) (by intro w h; simp only [Rws] at h ⊢; (try simp only [h, and_self])) (Or.inl ⟨by rfl, ?_⟩) hS ?_
 rotate_left
 ·
  intro w' hS'
  simp only [Rws] at hS'
  go_simp
  refine ⟨?_, Below.refl _ _⟩
  rfl
 (try simp only [Act.put, List.setIfInBounds_toArray, List.set_cons_zero, List.set_cons_succ])
 refine kp 11 hS ?_
 refine wpAnyK_store (k := 12) (by simp only [List.getElem?_toArray, List.getElem?_cons_succ, List.getElem?_cons_zero]; rfl) rfl rfl (by kernel_rfl) (fun y hy => ?_)
 replace hy : Below w5.heap.size w5 y := below_step (Below.drew (Below.refl _ _)) hy
 have zy := hy.size
 have rNy := (row_below hy hzN5).trans rN5
 have rSy := (row_below hy hzS5).trans rS5
 obtain ⟨y2, hy2⟩ : ∃ q, y.setRow N (u8s k1 ++ (u8s k2 ++ [Value.int .i64 id, .int .u64 (m : Int), .int .u64 (n : Int), .int .u64 1, .bool true, .int .i64 born, .int .i64 sent, .int .i64 now])).toArray = q := ⟨_, rfl⟩
 refine ⟨y2, ?_, trivial, fun hS => ?_⟩
 ·
  rw [← hy2]
  go_simp
 have rNy2 : row y2 N = (u8s k1 ++ (u8s k2 ++ [Value.int .i64 id, .int .u64 (m : Int), .int .u64 (n : Int), .int .u64 1, .bool true, .int .i64 born, .int .i64 sent, .int .i64 now])).toArray := by rw [← hy2]; exact row_setRow_same (by rw [rNy]; simp; omega) (by rw [rNy]; simp [hk1, hk2])
 have rSy2 := (row_setRow_other (w := y) N S (u8s k1 ++ (u8s k2 ++ [Value.int .i64 id, .int .u64 (m : Int), .int .u64 (n : Int), .int .u64 1, .bool true, .int .i64 born, .int .i64 sent, .int .i64 now])).toArray (Ne.symm hNS)).trans rSy
 (try rw [hy2] at rSy2)
 have zy2 : y2.heap.size = y.heap.size := by rw [← hy2, setRow_size]
 have B6 : BelowS w5.heap.size [S, N] w5 y2 := by rw [← hy2]; exact (BelowS.of hy).trans ((BelowS.one (BelowBut.set (S := N) _ _) (show N ∈ [S, N] by simp)).mono zy)
 have hzS6 : S < y2.heap.size := by omega
 have hzN6 : N < y2.heap.size := by omega
 refine wpAnyR_opX 13 (by kernel_rfl) (fun u6 hu6 => ?_)
 refine wpOp_step rfl (fun K hK => ?_)
 have rN6 := (row_below hu6 hzN6).trans rNy2
 have rS6 := (row_below hu6 hzS6).trans rSy2
 have hu6z := hu6.size
 go_simp
 refine hK _ _ ⟨trivial, ?_⟩
 clear hK K
 have hS : Rws [] u6 := trivial
 (try simp only [Act.put, List.setIfInBounds_toArray, List.set_cons_zero, List.set_cons_succ])
 refine qp 14 hS ?_
 refine wpAnyR_opX 15 (by kernel_rfl) (fun u7 hu7 => ?_)
 refine wpOp_step rfl (fun K hK => ?_)
 have z7 := hu7.size
 have rN7 := (row_below hu7 (show N < u6.heap.size by omega)).trans rN6
 have rS7 := (row_below hu7 (show S < u6.heap.size by omega)).trans rS6
 obtain ⟨w8, hw8⟩ : ∃ q, u7.setRow S (u8s psk ++ [Value.bool g, .int .i64 r, .int .i64 k, .int .i64 p, .int .i64 d, .int .i64 now, .pointer none, .pointer (some ⟨N, 0, none⟩), .pointer c, .pointer talk, .int .i64 asked, .int .i64 made, .int .i64 id]).toArray = q := ⟨_, rfl⟩
 go_simp
 have rS8 : row w8 S = (u8s psk ++ [Value.bool g, .int .i64 r, .int .i64 k, .int .i64 p, .int .i64 d, .int .i64 now, .pointer none, .pointer (some ⟨N, 0, none⟩), .pointer c, .pointer talk, .int .i64 asked, .int .i64 made, .int .i64 id]).toArray := by rw [← hw8]; exact row_setRow_same (by rw [rS7]; simp) (by rw [rS7]; simp)
 have rN8 := (row_setRow_other (w := u7) S N (u8s psk ++ [Value.bool g, .int .i64 r, .int .i64 k, .int .i64 p, .int .i64 d, .int .i64 now, .pointer none, .pointer (some ⟨N, 0, none⟩), .pointer c, .pointer talk, .int .i64 asked, .int .i64 made, .int .i64 id]).toArray hNS).trans rN7
 (try rw [hw8] at rN8)
 (try rw [hw8])
 have z8 : w8.heap.size = u7.heap.size := by rw [← hw8, setRow_size]
 have B8 : BelowS w.heap.size [S, N] w w8 := by
  rw [← hw8]
  exact B5.trans ((B6.trans (((BelowS.of hu6).trans ((BelowS.of hu7).mono hu6z) |>.trans ((BelowS.one (BelowBut.set (S := S) _ _) (show S ∈ [S, N] by simp)).mono (by omega))).mono B6.size)).mono B5.size)
 refine hK _ _ ⟨trivial, ?_⟩
 clear hK K
 have hzN8 : N < w8.heap.size := by omega
 have hzS8 : S < w8.heap.size := by omega
 clear hS hu6 hu7 hw8 hy2 hy rS7 rN7 rS6 rN6 rSy rNy rSy2 rNy2 z7 z8 zy zy2 hu6z B6 hzS6 hzN6 rS5 rN5 B5 hzS5 hzN5
 refine wpAnyR_done (by kernel_rfl) (fun w9 b9 => ?_) _
 have z9 := b9.size
 have rS9 := (row_below b9 hzS8).trans rS8
 have rN9 := (row_below b9 hzN8).trans rN8
 have B9 : BelowS w.heap.size [S, N] w w9 := B8.trans ((BelowS.of b9).mono B8.size)
 have hzN9 : N < w9.heap.size := by omega
 have hzS9 : S < w9.heap.size := by omega
 clear rS8 rN8 b9 B8 z9
 go_wp2_with fail
 obtain ⟨w10, hw10⟩ : ∃ q, w9.setRow S (u8s psk ++ [Value.bool g, .int .i64 r, .int .i64 k, .int .i64 p, .int .i64 d, .int .i64 now, .pointer none, .pointer none, .pointer c, .pointer talk, .int .i64 asked, .int .i64 made, .int .i64 id]).toArray = q := ⟨_, rfl⟩
 have rS10 : row w10 S = (u8s psk ++ [Value.bool g, .int .i64 r, .int .i64 k, .int .i64 p, .int .i64 d, .int .i64 now, .pointer none, .pointer none, .pointer c, .pointer talk, .int .i64 asked, .int .i64 made, .int .i64 id]).toArray := by rw [← hw10]; exact row_setRow_same (by rw [rS9]; simp) (by rw [rS9]; simp)
 have rN10 : row w10 N = (u8s k1 ++ (u8s k2 ++ [Value.int .i64 id, .int .u64 (m : Int), .int .u64 (n : Int), .int .u64 1, .bool true, .int .i64 born, .int .i64 sent, .int .i64 now])).toArray := by rw [← hw10]; exact (row_setRow_other (w := w9) S N (u8s psk ++ [Value.bool g, .int .i64 r, .int .i64 k, .int .i64 p, .int .i64 d, .int .i64 now, .pointer none, .pointer none, .pointer c, .pointer talk, .int .i64 asked, .int .i64 made, .int .i64 id]).toArray hNS).trans rN9
 have B10 : BelowS w.heap.size [S, N] w w10 := by rw [← hw10]; exact B9.trans ((BelowS.one (BelowBut.set (S := S) _ _) (show S ∈ [S, N] by simp)).mono B9.size)
 have hzN10 : N < w10.heap.size := by rw [← hw10, setRow_size]; exact hzN9
 rw [hw10]
 clear rS9 rN9 B9 hw10 hzN9 hzS9
 (with_reducible refine (HUS.out _ rS10).mono ?_)
 rintro e w11 ⟨rfl, rS11, b11⟩
 have rN11 := (b11.row hzN10 hNS).trans rN10
 have B11 := B10.trans ((BelowS.one b11 (show S ∈ [S, N] by simp)).mono B10.size)
 clear rS10 rN10 b11 B10
 go_wp2_with fail
 go_ret2
 exact ⟨rfl, rN11, rS11, B11⟩
end
end
section
open Go.RowKit
section
variable (psk sec : List UInt8) (g : Bool) (r k p d now asked made last : Int) (a b c talk : Option Addr) (S : Nat) (w : World) (hp : psk.length = 32) (hS : row w S = (⟨psk, g, r, k, p, d, now, a, b, c, talk, asked, made, last⟩ : LinkT).cells.toArray)
include hp hS
set_option maxRecDepth 20000 in
set_option maxHeartbeats 2000000 in
theorem takeX_1 (hs : sec.length = 32) (s : List UInt8) (n : Nat) (body : List UInt8) (P : Nat → World → Prop) (HP : ∀ w, Calls Tryz.prog 24 #[.string ⟨s.toArray⟩] w fun e w1 => e = .returned (.tuple #[.agg (gramV 1 n body).toArray, .int .i64 0]) ∧ Below w.heap.size w w1)
  (HG : ∀ w2, Below w.heap.size w w2 → Calls Tryz.prog 51 #[.pointer (some ⟨S, 0, none⟩), .string ⟨body.toArray⟩, .agg (u8s sec).toArray] w2 fun e w3 => ∃ q, e = .returned (.tuple #[.slice (some ⟨q, 0, none⟩) 1 1, .int .i64 0]) ∧ P q w3) :
  Calls Tryz.prog 21 #[.pointer (some ⟨S, 0, none⟩), .string ⟨s.toArray⟩, .agg (u8s sec).toArray] w fun e w' => ∃ q, e = .returned (.tuple #[.string ⟨#[]⟩, .slice (some ⟨q, 0, none⟩) 1 1, .int .i64 0]) ∧ P q w' := by
 have zS : S < w.heap.size := lt_of_row (i := 0) (by rw [hS]; simp [LinkT.cells, hp])
 have hS0 := Lib.hid hS
 unfold LinkT.cells at hS
 simp only at hS
 go_enter Tryz.func21, Tryz.ntmps21
 have HP2 := Lib.hid HP
 have HG2 := Lib.hid HG
 clear HP HG
 go_wp2_with fail
 refine (HP2.out _).mono ?_
 rintro e w1 ⟨rfl, b1⟩
 have bb1 : Below w.heap.size w w1 := Below.trans (by (repeat (first | exact Below.refl _ _ | refine Below.al ?_ _ | refine Below.drew ?_ | refine Below.sr ?_ _ | refine Below.sc ?_ _))) (b1.mono (by simp))
 have z1 := bb1.size
 have rS1 := (row_below bb1 zS).trans hS0.out
 have z2 := b1.size
 rw [alloc_sizeW] at z2
 obtain ⟨W, hW⟩ : ∃ v, w1.alloc (.cells #[Value.int .i64 1, Value.int .u64 (n : Int), Value.string ⟨body.toArray⟩] 68) = v := ⟨_, rfl⟩
 have bW : Below w1.heap.size w1 W := by
  rw [← hW]
  (repeat (first | exact Below.refl _ _ | refine Below.al ?_ _ | refine Below.drew ?_ | refine Below.sr ?_ _ | refine Below.sc ?_ _))
 have zW : W.heap.size = w1.heap.size + 1 := by rw [← hW]; simp
 have rG : row W w1.heap.size = #[Value.int .i64 1, Value.int .u64 (n : Int), Value.string ⟨body.toArray⟩] := by rw [← hW]; simp [go_sem]
 have rSe : row W w.heap.size = (u8s sec).toArray := by rw [row_below bW (by omega), row_below b1 (by simp only [alloc_sizeW]; omega)]; simp [go_sem]
 have rS2 := (row_below bW (by omega)).trans rS1
 have bbW := bb1.trans (bW.mono (by omega))
 unfold gramV
 go_wp2_with fail
 clear hW bW b1 rS1 hS
 refine (HG2.out _ bbW).mono ?_
 rintro e w2 ⟨q, rfl, hP⟩
 go_wp2_with fail
 go_ret3
 exact ⟨q, rfl, hP⟩
set_option maxRecDepth 20000 in
set_option maxHeartbeats 2000000 in
theorem takeX_2 (hs : sec.length = 32) (s : List UInt8) (n : Nat) (body : List UInt8) (P : Nat → World → Prop) (HP : ∀ w, Calls Tryz.prog 24 #[.string ⟨s.toArray⟩] w fun e w1 => e = .returned (.tuple #[.agg (gramV 2 n body).toArray, .int .i64 0]) ∧ Below w.heap.size w w1)
  (HG : ∀ w2, Below w.heap.size w w2 → Calls Tryz.prog 52 #[.pointer (some ⟨S, 0, none⟩), .string ⟨body.toArray⟩] w2 fun e w3 => ∃ q, e = .returned (.tuple #[.slice (some ⟨q, 0, none⟩) 1 1, .int .i64 0]) ∧ P q w3) :
  Calls Tryz.prog 21 #[.pointer (some ⟨S, 0, none⟩), .string ⟨s.toArray⟩, .agg (u8s sec).toArray] w fun e w' => ∃ q, e = .returned (.tuple #[.string ⟨#[]⟩, .slice (some ⟨q, 0, none⟩) 1 1, .int .i64 0]) ∧ P q w' := by
 have zS : S < w.heap.size := lt_of_row (i := 0) (by rw [hS]; simp [LinkT.cells, hp])
 have hS0 := Lib.hid hS
 unfold LinkT.cells at hS
 simp only at hS
 go_enter Tryz.func21, Tryz.ntmps21
 have HP2 := Lib.hid HP
 have HG2 := Lib.hid HG
 clear HP HG
 go_wp2_with fail
 refine (HP2.out _).mono ?_
 rintro e w1 ⟨rfl, b1⟩
 have bb1 : Below w.heap.size w w1 := Below.trans (by (repeat (first | exact Below.refl _ _ | refine Below.al ?_ _ | refine Below.drew ?_ | refine Below.sr ?_ _ | refine Below.sc ?_ _))) (b1.mono (by simp))
 have z1 := bb1.size
 have rS1 := (row_below bb1 zS).trans hS0.out
 have z2 := b1.size
 rw [alloc_sizeW] at z2
 obtain ⟨W, hW⟩ : ∃ v, w1.alloc (.cells #[Value.int .i64 2, Value.int .u64 (n : Int), Value.string ⟨body.toArray⟩] 68) = v := ⟨_, rfl⟩
 have bW : Below w1.heap.size w1 W := by
  rw [← hW]
  (repeat (first | exact Below.refl _ _ | refine Below.al ?_ _ | refine Below.drew ?_ | refine Below.sr ?_ _ | refine Below.sc ?_ _))
 have zW : W.heap.size = w1.heap.size + 1 := by rw [← hW]; simp
 have rG : row W w1.heap.size = #[Value.int .i64 2, Value.int .u64 (n : Int), Value.string ⟨body.toArray⟩] := by rw [← hW]; simp [go_sem]
 have rSe : row W w.heap.size = (u8s sec).toArray := by rw [row_below bW (by omega), row_below b1 (by simp only [alloc_sizeW]; omega)]; simp [go_sem]
 have rS2 := (row_below bW (by omega)).trans rS1
 have bbW := bb1.trans (bW.mono (by omega))
 unfold gramV
 go_wp2_with fail
 clear hW bW b1 rS1 hS
 refine (HG2.out _ bbW).mono ?_
 rintro e w2 ⟨q, rfl, hP⟩
 go_wp2_with fail
 go_ret3
 exact ⟨q, rfl, hP⟩
set_option maxRecDepth 20000 in
set_option maxHeartbeats 2000000 in
theorem takeX_3 (hs : sec.length = 32) (s : List UInt8) (n : Nat) (body text : List UInt8) (P : World → Prop) (HP : ∀ w, Calls Tryz.prog 24 #[.string ⟨s.toArray⟩] w fun e w1 => e = .returned (.tuple #[.agg (gramV 3 n body).toArray, .int .i64 0]) ∧ Below w.heap.size w w1)
  (HG : ∀ w2, Below w.heap.size w w2 → Calls Tryz.prog 53 #[.pointer (some ⟨S, 0, none⟩), .agg (gramV 3 n body).toArray] w2 fun e w3 => e = .returned (.tuple #[.string ⟨text.toArray⟩, .int .i64 0]) ∧ P w3) :
  Calls Tryz.prog 21 #[.pointer (some ⟨S, 0, none⟩), .string ⟨s.toArray⟩, .agg (u8s sec).toArray] w fun e w' => e = .returned (.tuple #[.string ⟨text.toArray⟩, .slice none 0 0, .int .i64 0]) ∧ P w' := by
 have zS : S < w.heap.size := lt_of_row (i := 0) (by rw [hS]; simp [LinkT.cells, hp])
 have hS0 := Lib.hid hS
 unfold LinkT.cells at hS
 simp only at hS
 go_enter Tryz.func21, Tryz.ntmps21
 have HP2 := Lib.hid HP
 have HG2 := Lib.hid HG
 clear HP HG
 go_wp2_with fail
 refine (HP2.out _).mono ?_
 rintro e w1 ⟨rfl, b1⟩
 have bb1 : Below w.heap.size w w1 := Below.trans (by (repeat (first | exact Below.refl _ _ | refine Below.al ?_ _ | refine Below.drew ?_ | refine Below.sr ?_ _ | refine Below.sc ?_ _))) (b1.mono (by simp))
 have z1 := bb1.size
 have rS1 := (row_below bb1 zS).trans hS0.out
 have z2 := b1.size
 rw [alloc_sizeW] at z2
 obtain ⟨W, hW⟩ : ∃ v, w1.alloc (.cells #[Value.int .i64 3, Value.int .u64 (n : Int), Value.string ⟨body.toArray⟩] 68) = v := ⟨_, rfl⟩
 have bW : Below w1.heap.size w1 W := by
  rw [← hW]
  (repeat (first | exact Below.refl _ _ | refine Below.al ?_ _ | refine Below.drew ?_ | refine Below.sr ?_ _ | refine Below.sc ?_ _))
 have zW : W.heap.size = w1.heap.size + 1 := by rw [← hW]; simp
 have rG : row W w1.heap.size = #[Value.int .i64 3, Value.int .u64 (n : Int), Value.string ⟨body.toArray⟩] := by rw [← hW]; simp [go_sem]
 have rSe : row W w.heap.size = (u8s sec).toArray := by rw [row_below bW (by omega), row_below b1 (by simp only [alloc_sizeW]; omega)]; simp [go_sem]
 have rS2 := (row_below bW (by omega)).trans rS1
 have bbW := bb1.trans (bW.mono (by omega))
 unfold gramV
 go_wp2_with fail
 clear hW bW b1 rS1 hS
 refine (HG2.out _ bbW).mono ?_
 rintro e w2 ⟨rfl, hP⟩
 go_wp2_with fail
 go_ret3
 exact ⟨rfl, hP⟩
end
end
section
open Go.RowKit
def secL (n : Nat) : List UInt8 := UInt8.ofNat n :: (List.replicate 30 0 ++ [77])
set_option maxRecDepth 20000 in
set_option maxHeartbeats 2000000 in
theorem secret_any (n : Nat) (h1 : 1 ≤ n) (h2 : n < 256) (w : World) : Calls Tryz.prog 47 #[.int .i64 (n : Int)] w fun e w' => e = .returned (.agg (u8s (secL n)).toArray) ∧ Below w.heap.size w w' := by
 go_enter Tryz.func47, Tryz.ntmps47
 go_wp2_with fail
 have hn0 : (0 : Int) < (n : Int) := by omega
 have hm : Int.tmod (n : Int) 256 = (n : Int) := by rw [Int.tmod_eq_emod_of_nonneg (by omega)]; omega
 have hd : Int.tdiv (n : Int) 256 = 0 := by rw [Int.tdiv_eq_ediv_of_nonneg (by omega)]; omega
 refine wp_loop_rounds 3 ?_
 rw [rounds_succ]
 go_wp2_with fail
 go_wp2_with fail
 rw [rounds_succ]
 go_wp2_with fail
 obtain ⟨L, hL⟩ : ∃ q, ((zeros 32 (Value.int .u8 0)).set 0 (Value.int .u8 (n : Int))).set 31 (Value.int .u8 77) = q := ⟨_, rfl⟩
 have hLl : L.length = 32 := by rw [← hL]; rfl
 have hLs : L = u8s (secL n) := by
  rw [← hL]
  unfold secL
  rw [show zeros 32 (Value.int .u8 0) = List.replicate 32 (Value.int .u8 0) from rfl]
  simp [u8s, List.replicate, List.set, Nat.mod_eq_of_lt h2]
 rw [hL]
 obtain ⟨W0, hW0⟩ : ∃ q, w.alloc (.cells (zeros 32 (Value.int .u8 0)).toArray 22) = q := ⟨_, rfl⟩
 have z0 : W0.heap.size = w.heap.size + 1 := by rw [← hW0, alloc_sizeW]
 have b0 : Below w.heap.size w W0 := by rw [← hW0]; exact Below.alloc (Below.refl _ _) (Nat.le_refl _) _
 have hh : (W0.alloc (.cells L.toArray 22)).heap[w.heap.size]? = some (.cells (zeros 32 (Value.int .u8 0)).toArray 22 (0, 0)) := by
  rw [show (W0.alloc (.cells L.toArray 22)).heap[w.heap.size]? = W0.heap[w.heap.size]? from Below.heap_alloc _ _ _ (by omega), ← hW0]
  exact Array.getElem?_push_size
 have hst := run_storeCells_at Tryz.prog w.heap.size 0 22 L 0 _ _ hh (by rw [hLl]; decide) (by rw [hLs]; intro v hv; simp only [u8s, List.mem_map] at hv; obtain ⟨_, _, rfl⟩ := hv; rfl)
 rw [show ((zeros 32 (Value.int .u8 0)).toArray.toList.take (0 + 0) ++ L ++ (zeros 32 (Value.int .u8 0)).toArray.toList.drop (0 + 0 + L.length)) = L from by rw [hLl]; simp [zeros]] at hst
 rw [hW0]
 simp only [hst]
 obtain ⟨W2, hW2⟩ : ∃ q, (W0.alloc (.cells L.toArray 22)).setRow w.heap.size L.toArray = q := ⟨_, rfl⟩
 have hr : row (W0.alloc (.cells L.toArray 22)) w.heap.size = (zeros 32 (Value.int .u8 0)).toArray := by unfold row; rw [hh]; rfl
 have r2 : row W2 w.heap.size = L.toArray := by rw [← hW2]; exact row_setRow_same (by rw [hr]; simp [zeros]) (by rw [hr]; simp [zeros, hLl])
 have b2 : Below w.heap.size w W2 := by rw [← hW2]; exact Below.setRow (Below.alloc b0 (by omega) _) (Nat.le_refl _) _
 (try rw [hW2])
 clear hW2 hst hh hW0 hL
 go_wp2_with fail
 try subst hLs
 refine bodyPost_ret (results_1 rfl (resOk_row rfl ?_)) rfl ?_
 ·
  rw [r2]; simpa using hLl
 exact ⟨by rw [r2], b2⟩
end
section
open Go.RowKit
def pairC (a b : Option Addr) (g0 g1 s0 s1 t0 t1 : Value) (n : Nat) (bad : Bool) : Array Value := #[.pointer a, .pointer b, g0, g1, s0, s1, t0, t1, .int .i64 (n : Int), .bool bad]
set_option maxRecDepth 20000 in
set_option maxHeartbeats 2000000 in
theorem draw_any (Q : Nat) (a b : Option Addr) (g0 g1 s0 s1 t0 t1 : Value) (n : Nat) (bad : Bool) (hn : n < 255) (w : World) (hQ : row w Q = pairC a b g0 g1 s0 s1 t0 t1 n bad) :
  Calls Tryz.prog 17 #[.pointer (some ⟨Q, 0, none⟩)] w fun e w' => e = .returned (.agg (u8s (secL (n + 1))).toArray) ∧ row w' Q = pairC a b g0 g1 s0 s1 t0 t1 (n + 1) bad ∧ BelowBut w.heap.size Q w w' := by
 have zQ : Q < w.heap.size := lt_of_row (i := 0) (by rw [hQ]; simp [pairC])
 unfold pairC at hQ ⊢
 have hm : IntKind.i64.wrap ((n : Int) + 1) = (n : Int) + 1 := wrapN _ (n + 1) (by omega) (by omega)
 go_enter Tryz.func17, Tryz.ntmps17
 have HS : ∀ w, Calls Tryz.prog 47 #[.int .i64 ((n : Int) + 1)] w fun e w' => e = .returned (.agg (u8s (secL (n + 1))).toArray) ∧ Below w.heap.size w w' := fun w => secret_any (n + 1) (by omega) (by omega) w
 have HS2 := Lib.hid HS
 clear HS
 have hLl : (u8s (secL (n + 1))).length = 32 := by simp [u8s, secL]
 have hL1 : ∀ v ∈ u8s (secL (n + 1)), v.oneCell' = true := by intro v hv; simp only [u8s, List.mem_map] at hv; obtain ⟨_, _, rfl⟩ := hv; rfl
 obtain ⟨L, hL⟩ : ∃ q, u8s (secL (n + 1)) = q := ⟨_, rfl⟩
 rw [hL] at HS2 hLl hL1
 go_wp2_with fail
 obtain ⟨W1, hW1⟩ : ∃ q, w.setRow Q #[Value.pointer a, .pointer b, g0, g1, s0, s1, t0, t1, .int .i64 ((n : Int) + 1), .bool bad] = q := ⟨_, rfl⟩
 have z1 : W1.heap.size = w.heap.size := by rw [← hW1, setRow_size]
 have r1 : row W1 Q = #[Value.pointer a, .pointer b, g0, g1, s0, s1, t0, t1, .int .i64 ((n : Int) + 1), .bool bad] := by rw [← hW1]; exact row_setRow_same (by rw [hQ]; simp) (by rw [hQ]; rfl)
 have B1 : BelowBut w.heap.size Q w W1 := by rw [← hW1]; exact BelowBut.set _ _
 rw [hW1]
 clear hW1
 obtain ⟨W2, hW2⟩ : ∃ q, W1.alloc (.cells (zeros 32 (Value.int .u8 0)).toArray 23) = q := ⟨_, rfl⟩
 have hh : W2.heap[w.heap.size]? = some (.cells (zeros 32 (Value.int .u8 0)).toArray 23 (0, 0)) := by rw [← hW2, ← z1]; exact Array.getElem?_push_size
 have z2 : W2.heap.size = w.heap.size + 1 := by rw [← hW2, alloc_sizeW]; omega
 have b2 : Below w.heap.size W1 W2 := by rw [← hW2]; exact Below.alloc (Below.refl _ _) (by omega) _
 rw [hW2]
 clear hW2
 refine (HS2.out _).mono ?_
 rintro e w3 ⟨rfl, b3⟩
 have h3 := (b3.block w.heap.size (by omega)).trans hh
 have z3 := b3.size
 have hst := run_storeCells_at Tryz.prog w.heap.size 0 23 L 0 _ w3 h3 (by rw [hLl]; decide) hL1
 rw [show ((zeros 32 (Value.int .u8 0)).toArray.toList.take (0 + 0) ++ L ++ (zeros 32 (Value.int .u8 0)).toArray.toList.drop (0 + 0 + L.length)) = L from by rw [hLl]; simp [zeros]] at hst
 have r3 := (row_below (b2.trans (b3.mono (by omega))) (show Q < w.heap.size by omega)).trans r1
 have hr : row w3 w.heap.size = (zeros 32 (Value.int .u8 0)).toArray := by unfold row; rw [h3]; rfl
 go_wp2_with fail
 (try simp only [hst])
 obtain ⟨W4, hW4⟩ : ∃ q, w3.setRow w.heap.size L.toArray = q := ⟨_, rfl⟩
 have r4 : row W4 w.heap.size = L.toArray := by rw [← hW4]; exact row_setRow_same (by rw [hr]; simp [zeros]) (by rw [hr]; simp [zeros, hLl])
 have q4 := (row_setRow_other (w := w3) w.heap.size Q L.toArray (by omega)).trans r3
 have B4 : BelowBut w.heap.size Q w W4 := by rw [← hW4]; exact B1.trans ((BelowBut.of (Below.setRow (b2.trans (b3.mono (by omega))) (Nat.le_refl _) _)).mono (by omega))
 (try rw [hW4] at q4)
 (try rw [hW4])
 clear hW4 hst h3 hh
 go_wp2_with fail
 refine bodyPost_ret (results_1 rfl (resOk_row rfl ?_)) rfl ?_
 ·
  rw [r4]; simpa using hLl
 exact ⟨by rw [r4, hL], q4, B4⟩
end
section
open Go.RowKit
set_option maxRecDepth 20000 in
set_option maxHeartbeats 2000000 in
theorem two_any (psk : List UInt8) (hp : psk.length = 32) (r k p d : Int) (hR : okTimes r k p d) (w : World) :
  Calls Tryz.prog 13 #[.agg (u8s psk).toArray, .agg #[.int .i64 r, .int .i64 k, .int .i64 p, .int .i64 d]] w fun e w' => ∃ Q A B, e = .returned (.tuple #[.pointer (some ⟨Q, 0, none⟩), .bool true]) ∧ w.heap.size ≤ A ∧ A < B ∧ B < Q ∧ Q < w'.heap.size ∧ row w' A = (newT psk true r k p d).cells.toArray ∧ row w' B = (newT psk false r k p d).cells.toArray ∧ row w' Q = pairC (some ⟨A, 0, none⟩) (some ⟨B, 0, none⟩) (.slice none 0 0) (.slice none 0 0) (.slice none 0 0) (.slice none 0 0) (.slice none 0 0) (.slice none 0 0) 0 false ∧ Below w.heap.size w w' := by
 go_enter Tryz.func13, Tryz.ntmps13
 go_wp2_with fail
 obtain ⟨W1, hW1⟩ : ∃ q, w.alloc (.cells (u8s psk).toArray 23) = q := ⟨_, rfl⟩
 have z1 : W1.heap.size = w.heap.size + 1 := by rw [← hW1, alloc_sizeW]
 have b1 : Below w.heap.size w W1 := by rw [← hW1]; exact Below.alloc (Below.refl _ _) (Nat.le_refl _) _
 have r1 : row W1 w.heap.size = (u8s psk).toArray := by rw [← hW1]; exact row_alloc_at _ _ _ rfl
 rw [hW1]
 clear hW1
 obtain ⟨W, hW⟩ : ∃ q, W1.alloc (.cells #[Value.int .i64 r, .int .i64 k, .int .i64 p, .int .i64 d] 42) = q := ⟨_, rfl⟩
 have z2 : W.heap.size = W1.heap.size + 1 := by rw [← hW, alloc_sizeW]
 have b2 : Below w.heap.size w W := by rw [← hW]; exact Below.alloc b1 (by omega) _
 have r2 : row W (w.heap.size + 1) = #[Value.int .i64 r, .int .i64 k, .int .i64 p, .int .i64 d] := by rw [← hW]; exact row_alloc_at _ _ _ (by omega)
 have rp : row W w.heap.size = (u8s psk).toArray := by rw [← hW, row_alloc_past _ _ (by omega)]; exact r1
 rw [hW]
 clear hW r1 b1
 refine (linkNew_ok psk true r k p d _ hp hR).mono ?_
 rintro e w3 ⟨A, rfl, gA, zA, rA, b3⟩
 have z3 := b3.size
 have rp3 := (row_below b3 (show w.heap.size < W.heap.size by omega)).trans rp
 have rt3 := (row_below b3 (show w.heap.size + 1 < W.heap.size by omega)).trans r2
 have hzp : w.heap.size < w3.heap.size := by omega
 have hzt : w.heap.size + 1 < w3.heap.size := by omega
 have B3 := b2.trans (b3.mono (by omega))
 have gA' : w.heap.size + 2 ≤ A := by omega
 clear b2 b3 r2 rp z1 z2 gA z3
 go_wp2_with fail
 refine (linkNew_ok psk false r k p d _ hp hR).mono ?_
 rintro e w4 ⟨B, rfl, gB, zB, rB, b4⟩
 have rA4 := (row_below b4 zA).trans rA
 have B4 := B3.trans (b4.mono B3.size)
 have z4 := b4.size
 have z0 := B4.size
 go_wp2_with fail
 go_ret2
 have hN : ∀ (c : Array Value) t, row (w4.alloc (.cells c t)) A = (newT psk true r k p d).cells.toArray := fun c t => by rw [row_alloc_past _ _ (by omega)]; exact rA4
 have hM : ∀ (c : Array Value) t, row (w4.alloc (.cells c t)) B = (newT psk false r k p d).cells.toArray := fun c t => by rw [row_alloc_past _ _ (by omega)]; exact rB
 refine ⟨w4.heap.size, A, B, rfl, by omega, by omega, by omega, ?_, ?_, ?_, ?_, ?_⟩
 ·
  first | (rw [alloc_sizeW]; omega) | (simp; done)
 ·
  first | exact hN _ _ | (rw [row_setRow_other _ _ _ (by omega)]; exact hN _ _)
 ·
  first | exact hM _ _ | (rw [row_setRow_other _ _ _ (by omega)]; exact hM _ _)
 ·
  first | exact row_alloc_at _ _ _ rfl | (exact row_setRow_same (by rw [row_alloc_at _ _ _ rfl]; simp [zeros]) (by rw [row_alloc_at _ _ _ rfl]; rfl))
 ·
  first | exact Below.alloc B4 (by omega) _ | exact Below.setRow (Below.alloc B4 (by omega) _) (by omega) _
end
section
open Go.RowKit
set_option maxRecDepth 20000 in
set_option maxHeartbeats 2000000 in
theorem held_any (x0 x1 x2 x3 : UInt8) (w : World) :
  Calls Tryz.prog 12 #[.agg (u8s [x0, x1, x2, x3]).toArray] w fun e w' => e = .returned (.agg #[.int .i64 (1 + (x0.toNat : Int) % 20), .int .i64 (1 + (x1.toNat : Int) % 20), .int .i64 (1 + (x2.toNat : Int) % 20), .int .i64 (1 + (x3.toNat : Int) % 20)]) ∧ Below w.heap.size w w' := by
 have q (x : UInt8) : IntKind.i64.wrap (x.toNat : Int) = (x.toNat : Int) := wrapN _ x.toNat rfl (by have := x.toNat_lt; omega)
 have m (x : UInt8) : Int.tmod (x.toNat : Int) 20 = (x.toNat : Int) % 20 := Int.tmod_eq_emod_of_nonneg (by omega)
 have z (x : UInt8) : IntKind.i64.wrap ((x.toNat : Int) % 20) = (x.toNat : Int) % 20 := wrapN _ (x.toNat % 20) (by omega) (by omega)
 have a (x : UInt8) : IntKind.i64.wrap (1 + (x.toNat : Int) % 20) = 1 + (x.toNat : Int) % 20 := wrapN _ (1 + x.toNat % 20) (by omega) (by omega)
 simp only [u8s, List.map]
 go_enter Tryz.func12, Tryz.ntmps12
 go_wp2_with fail
 have hr : ∀ (W : World), row W (w.heap.size + 1) = #[Value.int .i64 (1 + (x0.toNat : Int) % 20), .int .i64 (1 + (x1.toNat : Int) % 20), .int .i64 (1 + (x2.toNat : Int) % 20), .int .i64 (1 + (x3.toNat : Int) % 20)] → (row W (w.heap.size + 1)).size = 4 := fun W h => by rw [h]; rfl
 refine bodyPost_ret (results_1 rfl (resOk_row rfl ?_)) rfl ?_
 ·
  simp [go_sem]
 exact ⟨by simp [go_sem], (by (repeat (first | exact Below.refl _ _ | refine Below.al ?_ _ | refine Below.drew ?_ | refine Below.sr ?_ _ | refine Below.sc ?_ _)))⟩
end
end Go.Proofs.YtakkicppgkmokaaGreat
