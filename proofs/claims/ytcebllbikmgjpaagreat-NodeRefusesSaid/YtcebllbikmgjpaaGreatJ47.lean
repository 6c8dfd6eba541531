/- Texts of this proof, merged: LnkJ, LnkM, LnkN, Dwn. -/
import Derived.Test.YtcebllbikmgjpaaGreatJ44
import Derived.Test.YtcebllbikmgjpaaGreatJ7
set_option linter.unusedSimpArgs false
set_option linter.unusedVariables false
set_option maxHeartbeats 8000000
set_option maxRecDepth 20000
namespace Go.Proofs.YtcebllbikmgjpaaGreat
section
open Go.RowKit
section
attribute [local irreducible] sealL nonceL tagL maskL greetL hailT
variable (psk sec : List UInt8) (g : Bool) (r k p d now asked made last : Int) (A : Nat) (b c talk : Option Addr) (S : Nat) (w : World) (hp : psk.length = 32)
include hp
end
end
section
open Go.RowKit
section
variable {P : Program} {ops : Array Oper} {Q : Exit → Act → World → Prop} {md : Region.Mode} {S : World → Prop}
theorem wpAnyR_opX (i : Nat) {fuel : Nat} {listed : Array Bool} {a : Act} {w : World} (hr : Region.ready md ops listed = [i])
  (h : ∀ w1, Below w.heap.size w w1 → wpOp P ops Q i (fun a' w' => S w' ∧ wpAnyR P md ops Q S fuel (listed.setIfInBounds i true) a' w') a w1) : wpAnyR P md ops Q S (fuel + 1) listed a w := by
 intro w1 h1
 refine ⟨fun h0 => by rw [hr] at h0; simp at h0, fun j hj => ?_⟩
 rw [hr] at hj
 obtain rfl := List.mem_singleton.1 hj
 exact h w1 h1
end
def newS15 (k1 k2 : List UInt8) (id now : Int) : SessT := ⟨k1, k2, id, 0, 0, 0, false, now, now, now⟩
section
attribute [local irreducible] sealL nonceL tagL maskL greetL hailT
variable (psk sec : List UInt8) (g : Bool) (r k p d now asked made last : Int) (a b c talk : Option Addr) (S : Nat) (w : World) (hp : psk.length = 32)
include hp
theorem started_any (k1 k2 : List UInt8) (h1 : k1.length = 32) (h2 : k2.length = 32) (hm : 0 ≤ made ∧ made ≤ 1000000)
  (hS : row w S = (⟨psk, g, r, k, p, d, now, a, b, c, talk, asked, made, last⟩ : LinkT).cells.toArray) :
  Calls Tryz.prog 132 #[.pointer (some ⟨S, 0, none⟩), .agg (u8s k1 ++ u8s k2).toArray] w fun e w' => ∃ N, e = .returned (.pointer (some ⟨N, 0, none⟩)) ∧ w.heap.size ≤ N ∧ N < w'.heap.size ∧ row w' N = (newS15 k1 k2 (made + 1) now).cells.toArray ∧ row w' S = (⟨psk, g, r, k, p, d, now, a, b, c, talk, asked, (made + 1), last⟩ : LinkT).cells.toArray ∧ BelowBut w.heap.size S w w' := by
 have zS : S < w.heap.size := lt_of_row (i := 0) (by rw [hS]; simp [LinkT.cells, hp])
 unfold LinkT.cells at hS ⊢
 unfold newS15 SessT.cells
 dsimp only at hS ⊢
 have hw1 : wrap64 (made + 1) = made + 1 := by unfold wrap64; omega
 have hw2 : IntKind.i64.wrap (made + 1) = made + 1 := by rw [IntKind.wrap_i64]; omega
 go_enter Tryz.func132, Tryz.ntmps132
 obtain ⟨W, hW⟩ : ∃ v, w.alloc (.cells (u8s k1 ++ u8s k2).toArray 176) = v := ⟨_, rfl⟩
 have bW : Below w.heap.size w W := by rw [← hW]; exact ba_
 have zW : W.heap.size = w.heap.size + 1 := by rw [← hW, alloc_sizeW]
 have rK : row W w.heap.size = (u8s k1 ++ u8s k2).toArray := by rw [← hW]; exact row_alloc_at _ _ _ rfl
 have rS := (row_below bW zS).trans hS
 obtain ⟨W1, hW1⟩ : ∃ v, W.setRow S (u8s psk ++ [Value.bool g, .int .i64 r, .int .i64 k, .int .i64 p, .int .i64 d, .int .i64 now, .pointer a, .pointer b, .pointer c, .pointer talk, .int .i64 asked, .int .i64 (made + 1), .int .i64 last]).toArray = v := ⟨_, rfl⟩
 have r1 : row W1 S = (u8s psk ++ [Value.bool g, .int .i64 r, .int .i64 k, .int .i64 p, .int .i64 d, .int .i64 now, .pointer a, .pointer b, .pointer c, .pointer talk, .int .i64 asked, .int .i64 (made + 1), .int .i64 last]).toArray := by rw [← hW1]; exact row_setRow_same (by rw [rS]; simp) (by rw [rS]; simp)
 have k1r := (row_setRow_other (w := W) S w.heap.size (u8s psk ++ [Value.bool g, .int .i64 r, .int .i64 k, .int .i64 p, .int .i64 d, .int .i64 now, .pointer a, .pointer b, .pointer c, .pointer talk, .int .i64 asked, .int .i64 (made + 1), .int .i64 last]).toArray (by omega)).trans rK
 rw [hW1] at k1r
 have z1 : W1.heap.size = w.heap.size + 1 := by rw [← hW1, setRow_size, zW]
 have b1 : BelowBut w.heap.size S w W1 := by rw [← hW1]; exact (BelowBut.of bW).trans (BelowBut.set _ _)
 clear hS zW
 go_wp2_with fail
 (try rw [hW])
 (try clear hW)
 go_wp2_with fail
 (try rw [hW1])
 (try clear hW1)
 clear rS rK
 have hzS : S < W1.heap.size := by omega
 have hzK : w.heap.size < W1.heap.size := by omega
 have HZ1 := h_ z1
 clear z1
 have R1 := h_ r1
 have K1 := h_ k1r
 refine rgR_ [(S, (u8s psk ++ [Value.bool g, .int .i64 r, .int .i64 k, .int .i64 p, .int .i64 d, .int .i64 now, .pointer a, .pointer b, .pointer c, .pointer talk, .int .i64 asked, .int .i64 (made + 1), .int .i64 last]).toArray), (w.heap.size, (u8s k1 ++ u8s k2).toArray)] (fun hS => ?_)
 refine qp 0 hS ?_
 refine qp 1 hS ?_
 refine qp 2 hS ?_
 refine qp 3 hS ?_
 refine qp 4 hS ?_
 refine qp 5 hS ?_
 refine qp 6 hS ?_
 refine qp 7 hS ?_
 refine qp 8 hS ?_
 refine qp 9 hS ?_
 refine qp 10 hS ?_
 refine qp 11 hS ?_
 refine qp 12 hS ?_
 refine qp 13 hS ?_
 refine qp 14 hS ?_
 refine qp 15 hS ?_
 refine qp 16 hS ?_
 refine qp 17 hS ?_
 refine wpAnyR_opX 18 kr_ (fun u3 hu3 => ?_)
 refine wpOp_step rfl (fun K hK => ?_)
 go_simp
 have hu : Below W1.heap.size W1 u3 := below_step (Below.drew (Below.refl _ _)) hu3
 have zu := hu.size
 obtain ⟨w4, hw4⟩ : ∃ y, u3.alloc (.cells (u8s k1 ++ (u8s k2 ++ Value.int .i64 (made + 1) :: (zeros 3 (Value.int .u64 0) ++ [Value.bool false, .int .i64 now, .int .i64 now, .int .i64 now]))).toArray 183) = y := ⟨_, rfl⟩
 have bu4 : Below u3.heap.size u3 w4 := by rw [← hw4]; exact ba_
 have z4 : w4.heap.size = u3.heap.size + 1 := by rw [← hw4, alloc_sizeW]
 have rN : row w4 u3.heap.size = (u8s k1 ++ (u8s k2 ++ Value.int .i64 (made + 1) :: (zeros 3 (Value.int .u64 0) ++ [Value.bool false, .int .i64 now, .int .i64 now, .int .i64 now]))).toArray := by rw [← hw4]; exact row_alloc_at _ _ _ rfl
 have b14 : Below W1.heap.size W1 w4 := hu.trans (bu4.mono zu)
 have rS4 := (row_below b14 hzS).trans R1.out
 have rK4 := (row_below b14 hzK).trans K1.out
 (try rw [hw4])
 have hS : Rws [(S, (u8s psk ++ [Value.bool g, .int .i64 r, .int .i64 k, .int .i64 p, .int .i64 d, .int .i64 now, .pointer a, .pointer b, .pointer c, .pointer talk, .int .i64 asked, .int .i64 (made + 1), .int .i64 last]).toArray), (w.heap.size, (u8s k1 ++ u8s k2).toArray)] w4 := ⟨rS4, by omega, rK4, by omega, trivial⟩
 refine hK _ _ ⟨hS, ?_⟩
 clear hK K
 (try simp only [Act.put, List.setIfInBounds_toArray, List.set_cons_zero, List.set_cons_succ])
 refine qp 19 hS ?_
 refine wpAnyR_done kr_ (fun w5 b5 => ?_) _
 have z5 := b5.size
 have rN5 := (row_below b5 (by omega)).trans rN
 have rS5 := (row_below b5 (by omega)).trans rS4
 have B5 : BelowBut w.heap.size S w w5 := (b1.trans ((BelowBut.of b14).mono (by omega))).trans ((BelowBut.of b5).mono (by omega))
 clear hS hu3 hu bu4 b14 rS4 rK4
 go_wp2_with fail
 go_ret
 exact ⟨u3.heap.size, rfl, by omega, by omega, rN5, rS5, B5⟩
end
end
section
open Go.RowKit
section
attribute [local irreducible] sealL nonceL tagL maskL greetL hailT replyL oneK twoK
variable (psk sec : List UInt8) (g : Bool) (r k p d now asked made last : Int) (a b c talk : Option Addr) (S : Nat) (w : World) (hp : psk.length = 32)
include hp
theorem greeted_of (gr rp K1 K2 : List UInt8) (hRE : ∀ w, Calls Tryz.prog 131 #[.agg (u8s psk).toArray, .agg (u8s sec).toArray, .string ⟨gr.toArray⟩] w fun e w' => e = .returned (.tuple #[.string ⟨rp.toArray⟩, .agg (u8s K2 ++ u8s K1).toArray, .int .i64 0]) ∧ Below w.heap.size w w') (hrl : rp.length = 48) (hk1 : K1.length = 32) (hk2 : K2.length = 32) (hsec : sec.length = 32) (hm : 0 ≤ made ∧ made ≤ 1000000) (hS : row w S = (⟨psk, false, r, k, p, d, now, none, b, c, talk, asked, made, last⟩ : LinkT).cells.toArray) :
  Calls Tryz.prog 84 #[.pointer (some ⟨S, 0, none⟩), .string ⟨gr.toArray⟩, .agg (u8s sec).toArray] w fun e w' => ∃ N q, e = .returned (.tuple #[.slice (some ⟨q, 0, none⟩) 1 1, .int .i64 0]) ∧ row w' q = #[.string ⟨(2 :: rp).toArray⟩] ∧ w.heap.size ≤ q ∧ q < w'.heap.size ∧ row w' N = (newS15 K2 K1 (made + 1) now).cells.toArray ∧ w.heap.size ≤ N ∧ N < w'.heap.size ∧ N ≠ q ∧ row w' S = (⟨psk, false, r, k, p, d, now, none, (some ⟨N, 0, none⟩), c, talk, asked, (made + 1), last⟩ : LinkT).cells.toArray ∧ BelowBut w.heap.size S w w' := by
 have zS : S < w.heap.size := lt_of_row (i := 0) (by rw [hS]; simp [LinkT.cells, hp])
 have HRE := h_ hRE
 have HPR := h_ (fun w => tunPrint12 w 2 (.inr rfl) rp hrl)
 rw [show byteI 2 = 2 from rfl] at HPR
 have HST := h_ (fun w hS => started_any psk false r k p d now asked made last none b c talk S w hp K2 K1 hk2 hk1 hm hS)
 clear hrl hRE hm
 unfold LinkT.cells at hS ⊢ HST
 dsimp only at hS ⊢ HST
 go_enter Tryz.func84, Tryz.ntmps84
 obtain ⟨W, hW⟩ : ∃ v, w.alloc (.cells (u8s sec).toArray 28) = v := ⟨_, rfl⟩
 have bW : Below w.heap.size w W := by rw [← hW]; exact ba_
 have zW : W.heap.size = w.heap.size + 1 := by rw [← hW, alloc_sizeW]
 have rK : row W w.heap.size = (u8s sec).toArray := by rw [← hW]; exact row_alloc_at _ _ _ rfl
 have rS := (row_below bW zS).trans hS
 clear hS
 go_wp2_with fail
 (try rw [hW])
 (try clear hW)
 have HZW := h_ zW
 have hzS : S < W.heap.size := by omega
 have hzK : w.heap.size < W.heap.size := by omega
 clear zW
 have R1 := h_ rS
 refine rgR_ [(S, (u8s psk ++ [Value.bool false, .int .i64 r, .int .i64 k, .int .i64 p, .int .i64 d, .int .i64 now, .pointer none, .pointer b, .pointer c, .pointer talk, .int .i64 asked, .int .i64 made, .int .i64 last]).toArray), (w.heap.size, (u8s sec).toArray)] (fun hS => ?_)
 refine qp 0 hS ?_
 refine qp 1 hS ?_
 refine qp 2 hS ?_
 refine qp 3 hS ?_
 refine qp 4 hS ?_
 refine qp 5 hS ?_
 refine qc 6 (v := ?_) hS ?_ ?_
 rotate_left
 ·
  intro w' hS'
  simp only [Rws] at hS'
  go_simp
  with_reducible refine (HRE.out _).mono ?_
  rintro e w'' ⟨rfl, hb⟩
  exact ⟨_, rfl, by rfl, hb⟩
 refine qp 7 hS ?_
 refine qp 8 hS ?_
 refine qp 9 hS ?_
 refine qp 10 hS ?_
 refine wpAnyR_opX 11 kr_ (fun u3 hu3 => ?_)
 refine wpOp_step rfl (fun K hK => ?_)
 go_simp
 have hu : Below W.heap.size W u3 := below_step (Below.drew (Below.refl _ _)) hu3
 have zu := hu.size
 obtain ⟨X, hX⟩ : ∃ y, u3.heap.size = y := ⟨_, rfl⟩
 obtain ⟨w4, hw4⟩ : ∃ y, u3.alloc (.cells (zeros 64 (Value.int .u8 0)).toArray 176) = y := ⟨_, rfl⟩
 have bu4 : Below u3.heap.size u3 w4 := by rw [← hw4]; exact ba_
 have z4 : w4.heap.size = u3.heap.size + 1 := by rw [← hw4, alloc_sizeW]
 have rX4 : row w4 u3.heap.size = (zeros 64 (Value.int .u8 0)).toArray := by rw [← hw4]; exact row_alloc_at _ _ _ rfl
 have b14 : Below W.heap.size W w4 := hu.trans (bu4.mono zu)
 have rS4 := (row_below b14 hzS).trans R1.out
 have rK4 := (row_below b14 hzK).trans rK
 rw [hX] at rX4 z4 zu
 (try rw [hX])
 (try rw [hw4])
 have hS : Rws [(S, (u8s psk ++ [Value.bool false, .int .i64 r, .int .i64 k, .int .i64 p, .int .i64 d, .int .i64 now, .pointer none, .pointer b, .pointer c, .pointer talk, .int .i64 asked, .int .i64 made, .int .i64 last]).toArray), (w.heap.size, (u8s sec).toArray)] w4 := ⟨rS4, by omega, rK4, by omega, trivial⟩
 refine hK _ _ ⟨hS, ?_⟩
 clear hK K
 (try simp only [Act.put, List.setIfInBounds_toArray, List.set_cons_zero, List.set_cons_succ])
 refine qp 12 hS ?_
 refine wpAnyR_opX 13 kr_ (fun u5 hu5 => ?_)
 refine wpOp_step rfl (fun K hK => ?_)
 have zu5 := hu5.size
 have rX5 := (row_below hu5 (show X < w4.heap.size by omega)).trans rX4
 have rS5 := (row_below hu5 (by omega)).trans rS4
 have rK5 := (row_below hu5 (by omega)).trans rK4
 go_simp
 obtain ⟨w6, hw6⟩ : ∃ y, u5.setRow X (u8s K2 ++ u8s K1).toArray = y := ⟨_, rfl⟩
 have rX6 : row w6 X = (u8s K2 ++ u8s K1).toArray := by rw [← hw6]; exact row_setRow_same (by rw [rX5]; simp) (by rw [rX5]; simp [hk1, hk2])
 have rS6 := (row_setRow_other (w := u5) X S (u8s K2 ++ u8s K1).toArray (by omega)).trans rS5
 have rK6 := (row_setRow_other (w := u5) X w.heap.size (u8s K2 ++ u8s K1).toArray (by omega)).trans rK5
 have z6 : w6.heap.size = u5.heap.size := by rw [← hw6, setRow_size]
 have b6 : Below W.heap.size W w6 := by rw [← hw6]; exact Below.setRow (b14.trans (hu5.mono (by omega))) (by omega) _
 rw [hw6] at rS6 rK6
 (try rw [hw6])
 have hS : Rws [(S, (u8s psk ++ [Value.bool false, .int .i64 r, .int .i64 k, .int .i64 p, .int .i64 d, .int .i64 now, .pointer none, .pointer b, .pointer c, .pointer talk, .int .i64 asked, .int .i64 made, .int .i64 last]).toArray), (w.heap.size, (u8s sec).toArray)] w6 := ⟨rS6, by omega, rK6, by omega, trivial⟩
 refine hK _ _ ⟨hS, ?_⟩
 clear hK K
 (try simp only [Act.put, List.setIfInBounds_toArray, List.set_cons_zero, List.set_cons_succ])
 refine qp 14 hS ?_
 refine wpAnyR_done kr_ (fun w7 b7 => ?_) _
 have z7 := b7.size
 have rX7 := (row_below b7 (by omega)).trans rX6
 have rS7 := (row_below b7 (by omega)).trans rS6
 have B7 : Below w.heap.size w w7 := bW.trans ((b6.trans (b7.mono (by omega))).mono bW.size)
 have zX7 : X < w7.heap.size := by omega
 have hXS : X ≠ S := by omega
 have hXw : w.heap.size ≤ X := by have := HZW.out; omega
 have hzS7 : S < w7.heap.size := by omega
 have RS7 := h_ rS7
 clear hS hu3 hu bu4 b14 rS4 rK4 rX4 hu5 rX5 rS5 rK5 rX6 rS6 rK6 b6 b7 z7 z6 zu5 z4 zu hw4 hw6 hX bW rK rS hzS hzK
 go_wp2_with fail
 clear rS7
 refine rgR_ [(X, (u8s K2 ++ u8s K1).toArray)] (fun hS => ?_)
 refine qp 0 hS ?_
 refine qp 1 hS ?_
 refine qp 2 hS ?_
 refine qp 4 hS ?_
 refine qp 5 hS ?_
 refine wpAnyR_opX 3 kr_ (fun u8 hu8 => ?_)
 refine wpOp_step rfl (fun K hK => ?_)
 clear hS
 go_simp
 have hv : Below w7.heap.size w7 u8 := below_step (Below.drew (Below.refl _ _)) hu8
 have zv := hv.size
 (with_reducible refine (HST.out _ ((row_below hv hzS7).trans RS7.out)).mono ?_)
 rintro e u9 ⟨N, rfl, gN, zN, rN, rS9, b9⟩
 have z9 := b9.size
 have rX9 := (b9.row (show X < u8.heap.size by omega) hXS).trans ((row_below hv zX7).trans rX7)
 have hS : Rws [(X, (u8s K2 ++ u8s K1).toArray)] u9 := ⟨rX9, by omega, trivial⟩
 refine hK _ _ ⟨hS, ?_⟩
 clear hK K
 (try simp only [Act.put, List.setIfInBounds_toArray, List.set_cons_zero, List.set_cons_succ])
 refine qp 6 hS ?_
 refine wpAnyR_opX 7 kr_ (fun u10 hu10 => ?_)
 refine wpOp_step rfl (fun K hK => ?_)
 have z10 := hu10.size
 have rS10 := (row_below hu10 (show S < u9.heap.size by omega)).trans rS9
 have rX10 := (row_below hu10 (show X < u9.heap.size by omega)).trans rX9
 have rN10 := (row_below hu10 zN).trans rN
 obtain ⟨w11, hw11⟩ : ∃ y, u10.setRow S (u8s psk ++ [Value.bool false, .int .i64 r, .int .i64 k, .int .i64 p, .int .i64 d, .int .i64 now, .pointer none, .pointer (some ⟨N, 0, none⟩), .pointer c, .pointer talk, .int .i64 asked, .int .i64 (made + 1), .int .i64 last]).toArray = y := ⟨_, rfl⟩
 have r11 : row w11 S = (u8s psk ++ [Value.bool false, .int .i64 r, .int .i64 k, .int .i64 p, .int .i64 d, .int .i64 now, .pointer none, .pointer (some ⟨N, 0, none⟩), .pointer c, .pointer talk, .int .i64 asked, .int .i64 (made + 1), .int .i64 last]).toArray := by rw [← hw11]; exact row_setRow_same (by rw [rS10]; simp) (by rw [rS10]; simp)
 have rX11 := (row_setRow_other (w := u10) S X (u8s psk ++ [Value.bool false, .int .i64 r, .int .i64 k, .int .i64 p, .int .i64 d, .int .i64 now, .pointer none, .pointer (some ⟨N, 0, none⟩), .pointer c, .pointer talk, .int .i64 asked, .int .i64 (made + 1), .int .i64 last]).toArray hXS).trans rX10
 have rN11 := (row_setRow_other (w := u10) S N (u8s psk ++ [Value.bool false, .int .i64 r, .int .i64 k, .int .i64 p, .int .i64 d, .int .i64 now, .pointer none, .pointer (some ⟨N, 0, none⟩), .pointer c, .pointer talk, .int .i64 asked, .int .i64 (made + 1), .int .i64 last]).toArray (by omega)).trans rN10
 have z11 : w11.heap.size = u10.heap.size := by rw [← hw11, setRow_size]
 have b79 : BelowBut w7.heap.size S w7 u9 := (BelowBut.of hv).trans (b9.mono zv)
 have b711 : BelowBut w7.heap.size S w7 w11 := by rw [← hw11]; exact (b79.trans ((BelowBut.of hu10).mono (by omega))).trans (BelowBut.set _ _)
 rw [hw11] at rX11 rN11
 go_simp
 (try rw [hw11])
 have hS : Rws [(X, (u8s K2 ++ u8s K1).toArray)] w11 := ⟨rX11, by omega, trivial⟩
 refine hK _ _ ⟨hS, ?_⟩
 clear hK K
 (try simp only [Act.put, List.setIfInBounds_toArray, List.set_cons_zero, List.set_cons_succ])
 refine wpAnyR_done kr_ (fun w12 b12 => ?_) _
 have z12 := b12.size
 have r12 := (row_below b12 (by omega)).trans r11
 have rN12 := (row_below b12 (by omega)).trans rN11
 have B12 : BelowBut w.heap.size S w w12 := (BelowBut.of B7).trans ((b711.trans ((BelowBut.of b12).mono (by omega))).mono B7.size)
 have gN2 : w7.heap.size ≤ N := by omega
 have zB7 := B7.size
 have zN12 : N < w12.heap.size := by omega
 have zS12 : S < w12.heap.size := by omega
 clear hS hu8 hv b9 hu10 hw11 b79 b711 b12 rS9 rX9 rS10 rX10 rN10 rX11 rN11 r11 rN z10 z11 z12 z9 zv
 go_wp2_with fail
 (with_reducible refine (HPR.out _).mono ?_)
 rintro e w13 ⟨rfl, b13⟩
 have z13 := b13.size
 have r13 := (row_below b13 zS12).trans r12
 have rN13 := (row_below b13 zN12).trans rN12
 have B13 := B12.trans ((BelowBut.of b13).mono B12.size)
 go_wp2_with fail
 go_ret2
 exact ⟨N, w13.heap.size, rfl, row_alloc_at _ _ _ rfl, B13.size, by rw [alloc_sizeW]; omega, by rw [row_alloc_past _ _ (by omega)]; exact rN13, by omega, by rw [alloc_sizeW]; omega, by omega, by rw [row_alloc_past _ _ (by omega)]; exact r13, B13.trans ⟨rfl, rfl, rfl, by rw [alloc_sizeW]; omega, fun q hq _ => Below.heap_alloc _ _ _ (by have := B13.size; omega)⟩⟩
end
end
section
open Go.RowKit
attribute [local irreducible] greetL hailT sealL nonceL tagL maskL replyL oneK twoK ansL
theorem run_index_alD (x y z : Option Addr) (j : Nat) (q : Option Addr) (hj : [x, y, z][j]? = some q) (w : World) :
  (Instr.index 147 (.agg #[.pointer x, .pointer y, .pointer z]) (.int .i64 j)).run Tryz.prog w = .ok (.pointer q) w := by
 have hk2 : j < 3 := by
  have := List.getElem?_eq_some_iff.1 hj
  obtain ⟨h, _⟩ := this
  simpa using h
 have hinfo : (Tryz.prog.info? 146).map (fun i => i.size) = some 1 := by kernel_rfl
 obtain ⟨inf, hi, hsz⟩ := Option.map_eq_some_iff.1 hinfo
 have hg : [Value.pointer x, Value.pointer y, Value.pointer z][j]? = some (.pointer q) := by
  match j, hj with
  | 0, h => simp at h; simp [h]
  | 1, h => simp at h; simp [h]
  | 2, h => simp at h; simp [h]
  | (n + 3), h => simp at h
 simp [Instr.index, run_underlying Tryz.underlying147, run_underlying Tryz.underlying146, asIntOf, isAgg, hk2, sizeOf, typeInfo, hi, hsz, part, hg, go_sem]
 exact (List.getElem?_eq_some_iff.1 hg).2
section
variable (psk sec : List UInt8) (g : Bool) (r k p d now asked made last : Int) (S : Nat) (w : World) (hp : psk.length = 32) (hS : row w S = (⟨psk, g, r, k, p, d, now, none, none, none, none, asked, made, last⟩ : LinkT).cells.toArray)
include hp hS
theorem opened_none (kd : Int) (n : Nat) (s : List UInt8) :
  Calls Tryz.prog 86 #[.pointer (some ⟨S, 0, none⟩), .agg (gramV kd n s).toArray] w fun e w' => e = .returned (.tuple #[.string ⟨#[]⟩, .int .i64 7]) ∧ Below w.heap.size w w' := by
 have zS : S < w.heap.size := lt_of_row (i := 0) (by rw [hS]; simp [LinkT.cells, hp])
 unfold LinkT.cells at hS
 simp only at hS
 go_enter Tryz.func86, Tryz.ntmps86
 unfold gramV
 obtain ⟨W, hW⟩ : ∃ v, w.alloc (.cells [Value.int .i64 kd, Value.int .u64 (n : Int), Value.string ⟨s.toArray⟩].toArray 210) = v := ⟨_, rfl⟩
 have bW : Below w.heap.size w W := by
  rw [← hW]
  (repeat (first | exact Below.refl _ _ | refine Below.al ?_ _ | refine Below.drew ?_ | refine Below.sr ?_ _ | refine Below.sc ?_ _))
 have rS := (row_below bW (by omega)).trans hS
 have hI0 := run_index_alD none none none 0 none rfl W
 have hI1 := run_index_alD none none none 1 none rfl W
 have hI2 := run_index_alD none none none 2 none rfl W
 simp only [show ((0 : Nat) : Int) = 0 from rfl, show ((1 : Nat) : Int) = 1 from rfl, show ((2 : Nat) : Int) = 2 from rfl] at hI0 hI1 hI2
 go_wp2_with fail
 clear hW
 refine wp_loop_rounds 4 ?_
 rw [rounds_succ]
 go_wp2_with fail
 rw [rounds_succ]
 go_wp2_with fail
 rw [rounds_succ]
 go_wp2_with fail
 rw [rounds_succ]
 go_wp2_with fail
 go_ret2
 exact ⟨rfl, bW⟩
theorem answered_none (s : List UInt8) :
  Calls Tryz.prog 85 #[.pointer (some ⟨S, 0, none⟩), .string ⟨s.toArray⟩] w fun e w' => e = .returned (.tuple #[.slice none 0 0, .int .i64 7]) ∧ Below w.heap.size w w' := by
 have zS : S < w.heap.size := lt_of_row (i := 0) (by rw [hS]; simp [LinkT.cells, hp])
 unfold LinkT.cells at hS
 simp only at hS
 go_enter Tryz.func85, Tryz.ntmps85
 cases g with
 | true =>
  go_wp2_with fail
  go_ret2
  exact ⟨rfl, blw_⟩
 | false =>
  go_wp2_with fail
  go_ret2
  exact ⟨rfl, blw_⟩
theorem takeD_bad (s : List UInt8) (kd : Int) (n : Nat) (body : List UInt8) (er : Int) (he : er ≠ 0) (HP : ∀ w, Calls Tryz.prog 83 #[.string ⟨s.toArray⟩] w fun e w1 => e = .returned (.tuple #[.agg (gramV kd n body).toArray, .int .i64 er]) ∧ Below w.heap.size w w1) :
  Calls Tryz.prog 44 #[.pointer (some ⟨S, 0, none⟩), .string ⟨s.toArray⟩, .agg (u8s sec).toArray] w fun e w' => e = .returned (.tuple #[.string ⟨#[]⟩, .slice none 0 0, .int .i64 er]) ∧ Below w.heap.size w w' := by
 have zS : S < w.heap.size := lt_of_row (i := 0) (by rw [hS]; simp [LinkT.cells, hp])
 unfold LinkT.cells at hS
 simp only at hS
 go_enter Tryz.func44, Tryz.ntmps44
 have HP2 := h_ HP
 clear HP
 go_wp2_with fail
 refine (HP2.out _).mono ?_
 rintro e w1 ⟨rfl, b1⟩
 have bb1 : Below w.heap.size w w1 := Below.trans blw_ (b1.mono (by simp))
 have z1 := bb1.size
 unfold gramV
 go_wp2_with fail
 go_ret3
 exact ⟨rfl, Below.alloc bb1 (by omega) _⟩
theorem takeD_2 (hs : sec.length = 32) (s : List UInt8) (n : Nat) (body : List UInt8) (HP : ∀ w, Calls Tryz.prog 83 #[.string ⟨s.toArray⟩] w fun e w1 => e = .returned (.tuple #[.agg (gramV 2 n body).toArray, .int .i64 0]) ∧ Below w.heap.size w w1) :
  Calls Tryz.prog 44 #[.pointer (some ⟨S, 0, none⟩), .string ⟨s.toArray⟩, .agg (u8s sec).toArray] w fun e w' => e = .returned (.tuple #[.string ⟨#[]⟩, .slice none 0 0, .int .i64 7]) ∧ Below w.heap.size w w' := by
 have zS : S < w.heap.size := lt_of_row (i := 0) (by rw [hS]; simp [LinkT.cells, hp])
 have hS0 := h_ hS
 unfold LinkT.cells at hS
 simp only at hS
 go_enter Tryz.func44, Tryz.ntmps44
 have HP2 := h_ HP
 clear HP
 go_wp2_with fail
 refine (HP2.out _).mono ?_
 rintro e w1 ⟨rfl, b1⟩
 have bb1 : Below w.heap.size w w1 := Below.trans blw_ (b1.mono (by simp))
 have z1 := bb1.size
 have rS1 := (row_below bb1 zS).trans hS0.out
 have z2 := b1.size
 rw [alloc_sizeW] at z2
 obtain ⟨W, hW⟩ : ∃ v, w1.alloc (.cells #[Value.int .i64 2, Value.int .u64 (n : Int), Value.string ⟨body.toArray⟩] 210) = v := ⟨_, rfl⟩
 have bW : Below w1.heap.size w1 W := by
  rw [← hW]
  (repeat (first | exact Below.refl _ _ | refine Below.al ?_ _ | refine Below.drew ?_ | refine Below.sr ?_ _ | refine Below.sc ?_ _))
 have zW : W.heap.size = w1.heap.size + 1 := by rw [← hW]; simp
 have rG : row W w1.heap.size = #[Value.int .i64 2, Value.int .u64 (n : Int), Value.string ⟨body.toArray⟩] := by rw [← hW]; simp [go_sem]
 have rSe : row W w.heap.size = (u8s sec).toArray := by rw [row_below bW (by omega), row_below b1 (by simp only [alloc_sizeW]; omega)]; simp [go_sem]
 have rS2 := (row_below bW (by omega)).trans rS1
 have bbW := bb1.trans (bW.mono (by omega))
 unfold gramV
 go_wp2_with fail
 clear hW bW b1 rS1 hS
 refine (answered_none psk g r k p d now asked made last S _ hp rS2 body).mono ?_
 rintro e w2 ⟨rfl, b2⟩
 go_wp2_with fail
 go_ret3
 exact ⟨rfl, bbW.trans (b2.mono (by omega))⟩
theorem takeD_3 (hs : sec.length = 32) (s : List UInt8) (n : Nat) (body : List UInt8) (HP : ∀ w, Calls Tryz.prog 83 #[.string ⟨s.toArray⟩] w fun e w1 => e = .returned (.tuple #[.agg (gramV 3 n body).toArray, .int .i64 0]) ∧ Below w.heap.size w w1) :
  Calls Tryz.prog 44 #[.pointer (some ⟨S, 0, none⟩), .string ⟨s.toArray⟩, .agg (u8s sec).toArray] w fun e w' => e = .returned (.tuple #[.string ⟨#[]⟩, .slice none 0 0, .int .i64 7]) ∧ Below w.heap.size w w' := by
 have zS : S < w.heap.size := lt_of_row (i := 0) (by rw [hS]; simp [LinkT.cells, hp])
 have hS0 := h_ hS
 unfold LinkT.cells at hS
 simp only at hS
 go_enter Tryz.func44, Tryz.ntmps44
 have HP2 := h_ HP
 clear HP
 go_wp2_with fail
 refine (HP2.out _).mono ?_
 rintro e w1 ⟨rfl, b1⟩
 have bb1 : Below w.heap.size w w1 := Below.trans blw_ (b1.mono (by simp))
 have z1 := bb1.size
 have rS1 := (row_below bb1 zS).trans hS0.out
 have z2 := b1.size
 rw [alloc_sizeW] at z2
 obtain ⟨W, hW⟩ : ∃ v, w1.alloc (.cells #[Value.int .i64 3, Value.int .u64 (n : Int), Value.string ⟨body.toArray⟩] 210) = v := ⟨_, rfl⟩
 have bW : Below w1.heap.size w1 W := by
  rw [← hW]
  (repeat (first | exact Below.refl _ _ | refine Below.al ?_ _ | refine Below.drew ?_ | refine Below.sr ?_ _ | refine Below.sc ?_ _))
 have zW : W.heap.size = w1.heap.size + 1 := by rw [← hW]; simp
 have rG : row W w1.heap.size = #[Value.int .i64 3, Value.int .u64 (n : Int), Value.string ⟨body.toArray⟩] := by rw [← hW]; simp [go_sem]
 have rSe : row W w.heap.size = (u8s sec).toArray := by rw [row_below bW (by omega), row_below b1 (by simp only [alloc_sizeW]; omega)]; simp [go_sem]
 have rS2 := (row_below bW (by omega)).trans rS1
 have bbW := bb1.trans (bW.mono (by omega))
 unfold gramV
 go_wp2_with fail
 clear hW bW b1 rS1 hS
 refine (opened_none psk g r k p d now asked made last S _ hp rS2 3 n body).mono ?_
 rintro e w2 ⟨rfl, b2⟩
 go_wp2_with fail
 go_ret3
 exact ⟨rfl, bbW.trans (b2.mono (by omega))⟩
theorem takeD_1 (hs : sec.length = 32) (s : List UInt8) (n : Nat) (body : List UInt8) (P : Value → World → Prop) (HP : ∀ w, Calls Tryz.prog 83 #[.string ⟨s.toArray⟩] w fun e w1 => e = .returned (.tuple #[.agg (gramV 1 n body).toArray, .int .i64 0]) ∧ Below w.heap.size w w1)
  (HG : ∀ w2, Below w.heap.size w w2 → Calls Tryz.prog 84 #[.pointer (some ⟨S, 0, none⟩), .string ⟨body.toArray⟩, .agg (u8s sec).toArray] w2 fun e w3 => ∃ v er, e = .returned (.tuple #[v, .int .i64 er]) ∧ P v w3) :
  Calls Tryz.prog 44 #[.pointer (some ⟨S, 0, none⟩), .string ⟨s.toArray⟩, .agg (u8s sec).toArray] w fun e w' => ∃ v er, e = .returned (.tuple #[.string ⟨#[]⟩, v, .int .i64 er]) ∧ P v w' := by
 have zS : S < w.heap.size := lt_of_row (i := 0) (by rw [hS]; simp [LinkT.cells, hp])
 have hS0 := h_ hS
 unfold LinkT.cells at hS
 simp only at hS
 go_enter Tryz.func44, Tryz.ntmps44
 have HP2 := h_ HP
 have HG2 := h_ HG
 clear HP HG
 go_wp2_with fail
 refine (HP2.out _).mono ?_
 rintro e w1 ⟨rfl, b1⟩
 have bb1 : Below w.heap.size w w1 := Below.trans blw_ (b1.mono (by simp))
 have z1 := bb1.size
 have rS1 := (row_below bb1 zS).trans hS0.out
 have z2 := b1.size
 rw [alloc_sizeW] at z2
 obtain ⟨W, hW⟩ : ∃ v, w1.alloc (.cells #[Value.int .i64 1, Value.int .u64 (n : Int), Value.string ⟨body.toArray⟩] 210) = v := ⟨_, rfl⟩
 have bW : Below w1.heap.size w1 W := by
  rw [← hW]
  (repeat (first | exact Below.refl _ _ | refine Below.al ?_ _ | refine Below.drew ?_ | refine Below.sr ?_ _ | refine Below.sc ?_ _))
 have zW : W.heap.size = w1.heap.size + 1 := by rw [← hW]; simp
 have rG : row W w1.heap.size = #[Value.int .i64 1, Value.int .u64 (n : Int), Value.string ⟨body.toArray⟩] := by rw [← hW]; simp [go_sem]
 have rSe : row W w.heap.size = (u8s sec).toArray := by rw [row_below bW (by omega), row_below b1 (by simp only [alloc_sizeW]; omega)]; simp [go_sem]
 have rS2 := (row_below bW (by omega)).trans rS1
 have bbW := bb1.trans (bW.mono (by omega))
 unfold gramV
 go_wp2_with fail
 clear hW bW b1 rS1 hS
 refine (HG2.out _ bbW).mono ?_
 rintro e w2 ⟨v, er, rfl, hP⟩
 go_wp2_with fail
 go_ret3
 exact ⟨v, er, rfl, hP⟩
end
section
variable (psk sec : List UInt8) (r k p d now asked made last : Int) (S : Nat) (w : World) (hp : psk.length = 32) (hS : row w S = (⟨psk, true, r, k, p, d, now, none, none, none, none, asked, made, last⟩ : LinkT).cells.toArray)
include hp hS
theorem greeted_no (s : List UInt8) :
  Calls Tryz.prog 84 #[.pointer (some ⟨S, 0, none⟩), .string ⟨s.toArray⟩, .agg (u8s sec).toArray] w fun e w' => e = .returned (.tuple #[.slice none 0 0, .int .i64 7]) ∧ Below w.heap.size w w' := by
 have zS : S < w.heap.size := lt_of_row (i := 0) (by rw [hS]; simp [LinkT.cells, hp])
 unfold LinkT.cells at hS
 simp only at hS
 go_enter Tryz.func84, Tryz.ntmps84
 go_wp2_with fail
 go_ret2
 exact ⟨rfl, blw_⟩
end
section
variable (psk sec : List UInt8) (r k p d now asked made last : Int) (S : Nat) (w : World) (hp : psk.length = 32)
include hp
theorem greeted_bad (gr : List UInt8) (er : Int) (he : er ≠ 0) (hRE : ∀ w, Calls Tryz.prog 131 #[.agg (u8s psk).toArray, .agg (u8s sec).toArray, .string ⟨gr.toArray⟩] w fun e w' => e = .returned (.tuple #[.string ⟨#[]⟩, .agg (zeros 64 (Value.int .u8 0)).toArray, .int .i64 er]) ∧ Below w.heap.size w w') (hsec : sec.length = 32) (hS : row w S = (⟨psk, false, r, k, p, d, now, none, none, none, none, asked, made, last⟩ : LinkT).cells.toArray) :
  Calls Tryz.prog 84 #[.pointer (some ⟨S, 0, none⟩), .string ⟨gr.toArray⟩, .agg (u8s sec).toArray] w fun e w' => e = .returned (.tuple #[.slice none 0 0, .int .i64 er]) ∧ Below w.heap.size w w' := by
 have zS : S < w.heap.size := lt_of_row (i := 0) (by rw [hS]; simp [LinkT.cells, hp])
 have HRE := h_ hRE
 have heb : (er != 0) = true := by simpa using he
 have heb2 : (er == 0) = false := by simpa using he
 clear hRE
 unfold LinkT.cells at hS
 dsimp only at hS
 go_enter Tryz.func84, Tryz.ntmps84
 obtain ⟨W, hW⟩ : ∃ v, w.alloc (.cells (u8s sec).toArray 28) = v := ⟨_, rfl⟩
 have bW : Below w.heap.size w W := by rw [← hW]; exact ba_
 have zW : W.heap.size = w.heap.size + 1 := by rw [← hW, alloc_sizeW]
 have rK : row W w.heap.size = (u8s sec).toArray := by rw [← hW]; exact row_alloc_at _ _ _ rfl
 have rS := (row_below bW zS).trans hS
 clear hS
 go_wp2_with fail
 (try rw [hW])
 (try clear hW)
 have HZW := h_ zW
 have hzS : S < W.heap.size := by omega
 have hzK : w.heap.size < W.heap.size := by omega
 clear zW
 have R1 := h_ rS
 refine rgR_ [(S, (u8s psk ++ [Value.bool false, .int .i64 r, .int .i64 k, .int .i64 p, .int .i64 d, .int .i64 now, .pointer none, .pointer none, .pointer none, .pointer none, .int .i64 asked, .int .i64 made, .int .i64 last]).toArray), (w.heap.size, (u8s sec).toArray)] (fun hS => ?_)
 refine qp 0 hS ?_
 refine qp 1 hS ?_
 refine qp 2 hS ?_
 refine qp 3 hS ?_
 refine qp 4 hS ?_
 refine qp 5 hS ?_
 refine qc 6 (v := ?_) hS ?_ ?_
 rotate_left
 ·
  intro w' hS'
  simp only [Rws] at hS'
  go_simp
  with_reducible refine (HRE.out _).mono ?_
  rintro e w'' ⟨rfl, hb⟩
  exact ⟨_, rfl, by rfl, hb⟩
 refine qp 7 hS ?_
 refine qp 8 hS ?_
 refine qp 9 hS ?_
 refine qp 10 hS ?_
 refine wpAnyR_opX 11 kr_ (fun u3 hu3 => ?_)
 refine wpOp_step rfl (fun K hK => ?_)
 go_simp
 have hu : Below W.heap.size W u3 := below_step (Below.drew (Below.refl _ _)) hu3
 have zu := hu.size
 obtain ⟨X, hX⟩ : ∃ y, u3.heap.size = y := ⟨_, rfl⟩
 obtain ⟨w4, hw4⟩ : ∃ y, u3.alloc (.cells (zeros 64 (Value.int .u8 0)).toArray 176) = y := ⟨_, rfl⟩
 have bu4 : Below u3.heap.size u3 w4 := by rw [← hw4]; exact ba_
 have z4 : w4.heap.size = u3.heap.size + 1 := by rw [← hw4, alloc_sizeW]
 have rX4 : row w4 u3.heap.size = (zeros 64 (Value.int .u8 0)).toArray := by rw [← hw4]; exact row_alloc_at _ _ _ rfl
 have b14 : Below W.heap.size W w4 := hu.trans (bu4.mono zu)
 have rS4 := (row_below b14 hzS).trans R1.out
 have rK4 := (row_below b14 hzK).trans rK
 rw [hX] at rX4 z4 zu
 (try rw [hX])
 (try rw [hw4])
 have hS : Rws [(S, (u8s psk ++ [Value.bool false, .int .i64 r, .int .i64 k, .int .i64 p, .int .i64 d, .int .i64 now, .pointer none, .pointer none, .pointer none, .pointer none, .int .i64 asked, .int .i64 made, .int .i64 last]).toArray), (w.heap.size, (u8s sec).toArray)] w4 := ⟨rS4, by omega, rK4, by omega, trivial⟩
 refine hK _ _ ⟨hS, ?_⟩
 clear hK K
 (try simp only [Act.put, List.setIfInBounds_toArray, List.set_cons_zero, List.set_cons_succ])
 refine qp 12 hS ?_
 refine wpAnyR_opX 13 kr_ (fun u5 hu5 => ?_)
 refine wpOp_step rfl (fun K hK => ?_)
 have zu5 := hu5.size
 have rX5 := (row_below hu5 (show X < w4.heap.size by omega)).trans rX4
 have rS5 := (row_below hu5 (by omega)).trans rS4
 have rK5 := (row_below hu5 (by omega)).trans rK4
 go_simp
 obtain ⟨w6, hw6⟩ : ∃ y, u5.setRow X (zeros 64 (Value.int .u8 0)).toArray = y := ⟨_, rfl⟩
 have rX6 : row w6 X = (zeros 64 (Value.int .u8 0)).toArray := by rw [← hw6]; exact row_setRow_same (by rw [rX5]; simp) (by rw [rX5])
 have rS6 := (row_setRow_other (w := u5) X S (zeros 64 (Value.int .u8 0)).toArray (by omega)).trans rS5
 have rK6 := (row_setRow_other (w := u5) X w.heap.size (zeros 64 (Value.int .u8 0)).toArray (by omega)).trans rK5
 have z6 : w6.heap.size = u5.heap.size := by rw [← hw6, setRow_size]
 have b6 : Below W.heap.size W w6 := by rw [← hw6]; exact Below.setRow (b14.trans (hu5.mono (by omega))) (by omega) _
 rw [hw6] at rS6 rK6
 (try rw [hw6])
 have hS : Rws [(S, (u8s psk ++ [Value.bool false, .int .i64 r, .int .i64 k, .int .i64 p, .int .i64 d, .int .i64 now, .pointer none, .pointer none, .pointer none, .pointer none, .int .i64 asked, .int .i64 made, .int .i64 last]).toArray), (w.heap.size, (u8s sec).toArray)] w6 := ⟨rS6, by omega, rK6, by omega, trivial⟩
 refine hK _ _ ⟨hS, ?_⟩
 clear hK K
 (try simp only [Act.put, List.setIfInBounds_toArray, List.set_cons_zero, List.set_cons_succ])
 refine qp 14 hS ?_
 refine wpAnyR_done kr_ (fun w7 b7 => ?_) _
 have B7 : Below w.heap.size w w7 := bW.trans ((b6.trans (b7.mono (by omega))).mono bW.size)
 clear hS hu5 hw6 b6 b7 hu hu3 bu4 b14
 go_wp2_with fail
 go_ret2
 exact ⟨rfl, B7⟩
end
theorem takeD_any (psk sec : List UInt8) (g : Bool) (r k p d : Int) (S : Nat) (w : World) (hp : psk.length = 32) (hs : sec.length = 32) (hS : row w S = (newT psk g r k p d).cells.toArray) (s : List UInt8) (hl : s.length ≤ 100000) :
  Calls Tryz.prog 44 #[.pointer (some ⟨S, 0, none⟩), .string ⟨s.toArray⟩, .agg (u8s sec).toArray] w fun e w' => ∃ v er, e = .returned (.tuple #[.string ⟨#[]⟩, v, .int .i64 er]) ∧ (v = .slice none 0 0 ∨ ∃ q x, v = .slice (some ⟨q, 0, none⟩) 1 1 ∧ row w' q = #[.string x] ∧ w.heap.size ≤ q ∧ q < w'.heap.size) ∧ (∃ t : LinkT, t.psk.length = 32 ∧ t.a = none ∧ row w' S = t.cells.toArray) ∧ BelowBut w.heap.size S w w' := by
 have zS : S < w.heap.size := lt_of_row (i := 0) (by rw [hS]; simp [newT, LinkT.cells, hp])
 have keep : ∀ {w' : World}, Below w.heap.size w w' → (∃ t : LinkT, t.psk.length = 32 ∧ t.a = none ∧ row w' S = t.cells.toArray) ∧ BelowBut w.heap.size S w w' := fun h => ⟨⟨_, hp, rfl, (row_below h zS).trans hS⟩, BelowBut.of h⟩
 obtain ⟨kd, n, body, er, hP, hc⟩ := tunParse_ex s hl
 by_cases he : er = 0
 ·
  subst he
  rcases hc with hc | ⟨_, rfl | rfl | rfl⟩
  ·
   exact absurd rfl hc
  ·
   refine (takeD_1 psk sec g r k p d 0 0 0 0 S w hp hS hs s n body (fun v w' => (v = .slice none 0 0 ∨ ∃ q x, v = .slice (some ⟨q, 0, none⟩) 1 1 ∧ row w' q = #[.string x] ∧ w.heap.size ≤ q ∧ q < w'.heap.size) ∧ (∃ t : LinkT, t.psk.length = 32 ∧ t.a = none ∧ row w' S = t.cells.toArray) ∧ BelowBut w.heap.size S w w') hP fun w2 b2 => ?_).mono fun e w' h => h
   have hS2 := (row_below b2 zS).trans hS
   have z2 := b2.size
   cases g with
   | true => exact (greeted_no psk sec r k p d 0 0 0 0 S w2 hp hS2 body).mono fun e w' h => ⟨_, _, h.1, .inl rfl, keep (b2.trans (h.2.mono z2))⟩
   | false =>
    by_cases hb : body.length = 48
    ·
     have e1 : body = body.take 32 ++ body.drop 32 := (List.take_append_drop 32 body).symm
     have l1 : (body.take 32).length = 32 := by rw [List.length_take]; omega
     have l2 : (body.drop 32).length = 16 := by rw [List.length_drop]; omega
     rw [e1]
     by_cases ht : tagT (ansT0 psk sec (body.take 32)) = body.drop 32
     ·
      exact (greeted_of psk sec r k p d 0 0 0 0 none none none S w2 hp _ _ _ _ (fun w => answer_yes psk sec _ _ w hp hs l1 l2 ht) (ansL_length _ _ _ _) (keyA_length _) (keyB_length _) hs (by omega) hS2).mono fun e w' h => by
       obtain ⟨N, q, rfl, rq, gq, zq, _, _, _, _, rS, bb⟩ := h
       exact ⟨_, _, rfl, .inr ⟨q, _, rfl, rq, by omega, zq⟩, ⟨_, by exact hp, rfl, rS⟩, (BelowBut.of b2).trans (bb.mono z2)⟩
     ·
      exact (greeted_bad psk sec r k p d 0 0 0 0 S w2 hp _ 5 (by decide) (fun w => answer_no psk sec _ _ w hp hs l1 l2 ht) hs hS2).mono fun e w' h => ⟨_, _, h.1, .inl rfl, keep (b2.trans (h.2.mono z2))⟩
    ·
     exact (greeted_bad psk sec r k p d 0 0 0 0 S w2 hp _ 3 (by decide) (fun w => answer_len psk sec body w hb) hs hS2).mono fun e w' h => ⟨_, _, h.1, .inl rfl, keep (b2.trans (h.2.mono z2))⟩
  ·
   exact (takeD_2 psk sec g r k p d 0 0 0 0 S w hp hS hs s n body hP).mono fun e w' h => ⟨_, _, h.1, .inl rfl, keep h.2⟩
  ·
   exact (takeD_3 psk sec g r k p d 0 0 0 0 S w hp hS hs s n body hP).mono fun e w' h => ⟨_, _, h.1, .inl rfl, keep h.2⟩
 ·
  exact (takeD_bad psk sec g r k p d 0 0 0 0 S w hp hS s kd n body er he hP).mono fun e w' h => ⟨_, _, h.1, .inl rfl, keep h.2⟩
end
end Go.Proofs.YtcebllbikmgjpaaGreat
