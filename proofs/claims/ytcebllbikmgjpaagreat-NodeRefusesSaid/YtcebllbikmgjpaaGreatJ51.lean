/- Texts of this proof, merged: NodK, NodW. -/
import Derived.Test.YtcebllbikmgjpaaGreatJ46
import Derived.Test.YtcebllbikmgjpaaGreatJ47
import Derived.Test.YtcebllbikmgjpaaGreatJ50
import Derived.Test.YtcebllbikmgjpaaGreatJ44
set_option linter.unusedSimpArgs false
set_option linter.unusedVariables false
set_option maxHeartbeats 8000000
set_option maxRecDepth 20000
namespace Go.Proofs.YtcebllbikmgjpaaGreat
section
open Go.RowKit Go.Shelf
theorem outNInfo : (Tryz.prog.info? 54).map (fun i => (i.zero.map (·.cells.size), i.size, i.bytes)) = some (some 3, 3, 32) := by kernel_rfl
theorem nCounts_nil (w : World) : Calls Tryz.prog 23 #[.pointer none] w fun e w' => e = .returned (.tuple #[.agg #[.int .i64 0, .int .i64 0, .int .i64 0, .int .i64 0, .int .i64 0], .int .i64 0]) ∧ Below w.heap.size w w' := by
 go_enter Tryz.func23, Tryz.ntmps23
 go_wp2_with fail
 ((try simp only [Exit.inBlock, Exit.then]); refine bodyPost_ret (results_2 rfl (resOk_row rfl ?_) resOk_tmp) rfl ?_; (simp [go_sem]))
 exact ⟨by rw [row_alloc_at _ _ _ rfl]; rfl, blw_⟩
theorem nRun_nil (w : World) : Calls Tryz.prog 14 #[.pointer none] w fun e w' => e = .returned (.slice none 0 0) ∧ Below w.heap.size w w' := by
 go_enter Tryz.func14, Tryz.ntmps14
 go_wp2_with fail
 go_ret
 exact ⟨rfl, blw_⟩
theorem nTick_nil (w : World) : Calls Tryz.prog 12 #[.pointer none, .slice none 0 0] w fun e w' => e = .returned (.slice none 0 0) ∧ Below w.heap.size w w' := by
 go_enter Tryz.func12, Tryz.ntmps12
 go_wp2_with fail
 go_ret
 exact ⟨rfl, blw_⟩
theorem nTake_no (N : Option Addr) (port : Int) (s : List UInt8) (w : World) (a : Bool) (hH : ∀ W, Below w.heap.size w W → Calls Tryz.prog 36 #[.pointer N, .int .i64 port] W fun e w' => e = .returned (.tuple #[.bool a, .bool false]) ∧ Below W.heap.size W w') : Calls Tryz.prog 22 #[.pointer N, .int .i64 port, .string ⟨s.toArray⟩, .agg (zeros 32 (.int .u8 0)).toArray] w fun e w' => e = .returned (.tuple #[.slice none 0 0, .int .i64 1]) ∧ Below w.heap.size w w' := by
 have HH := h_ hH
 clear hH
 go_enter Tryz.func22, Tryz.ntmps22
 obtain ⟨w1, hw1⟩ : ∃ x, w.alloc (.cells (zeros 32 (Value.int .u8 0)).toArray 28) = x := ⟨_, rfl⟩
 have b1 : Below w.heap.size w w1 := by rw [← hw1]; exact ba_
 go_wp2_with fail
 (try rw [hw1])
 (try clear hw1)
 (with_reducible refine (HH.out _ b1).mono ?_)
 rintro e w2 ⟨rfl, b2⟩
 go_wp2_with fail
 go_ret2
 exact ⟨rfl, b1.trans (b2.mono b1.size)⟩
theorem nTake_nil (port : Int) (s : List UInt8) (w : World) : Calls Tryz.prog 22 #[.pointer none, .int .i64 port, .string ⟨s.toArray⟩, .agg (zeros 32 (.int .u8 0)).toArray] w fun e w' => e = .returned (.tuple #[.slice none 0 0, .int .i64 1]) ∧ Below w.heap.size w w' :=
 nTake_no none port s w false fun W _ => (nHas_nil port W).mono fun e w' h => ⟨h.1, by rw [h.2]; exact Below.refl _ _⟩
theorem nTake_link {S : List Nat} {w : World} {N : Nat} {p : NdP} (h : Quiet S w N p) {q : Nat} (hq : q < p.es.length) {x L M : Nat} {pl : Int} (hx : p.es[q] = some x) (psk : List UInt8) (g : Bool) (r k pp dd : Int) (hp : psk.length = 32) (hrx : row w x = endV L M pl) (hL : row w L = (newT psk g r k pp dd).cells.toArray) (s : List UInt8) (hl : s.length ≤ 100000) :
  Calls Tryz.prog 22 #[.pointer (some ⟨N, 0, none⟩), .int .i64 (q : Int), .string ⟨s.toArray⟩, .agg (zeros 32 (.int .u8 0)).toArray] w fun e w' => (∃ v er, e = .returned (.tuple #[v, .int .i64 er])) ∧ Quiet S w' N p ∧ BelowBut w.heap.size L w w' := by
 have hH := fun (W : World) (hW : Below w.heap.size w W) => (h.below hW).has q hq
 rw [hx] at hH
 have hc := h.cell hq
 rw [hx] at hc
 simp only [optP, Option.map_some] at hc
 rw [Nat.zero_add] at hc
 have hnd := h.nd
 have zN := h.ltN
 have ze := h.lte
 have n32 := h.n32
 unfold NdP.cells nodeC at hnd
 obtain ⟨L', M', pl', t', d⟩ := h.down x (hx ▸ List.getElem_mem hq)
 have hLL : L' = L := by
  have := d.rx
  rw [hrx] at this
  have h0 := congrArg (fun a : Array Value => a[0]?) this
  simp only [endV, List.getElem?_toArray, List.getElem?_cons_zero, Option.some.injEq, Value.pointer.injEq, Addr.mk.injEq] at h0
  exact h0.1.symm
 subst hLL
 have zx := d.ltx
 have zL := d.ltL
 have nxL : x ≠ L' := fun e => by
  have := d.rx
  rw [e, d.rL] at this
  have h1 := congrArg Array.size this
  simp [endV, LinkT.len d.psk] at h1
 have HT := h_ (fun (W : World) (hW : Below w.heap.size w W) => takeD_any psk (List.replicate 32 0) g r k pp dd L' W hp (by simp) ((row_below hW zL).trans hL) s hl)
 rw [show u8s (List.replicate 32 0) = zeros 32 (Value.int .u8 0) from u8s_zeros 32] at HT
 have HH := h_ hH
 have HQ := h_ (fun (W : World) (hW : Below w.heap.size w W) (W' : World) (b : BelowBut W.heap.size L' W W') (ht : ∃ t : LinkT, t.psk.length = 32 ∧ t.a = none ∧ row W' L' = t.cells.toArray) => (show Quiet S W' N p from by
  obtain ⟨t, h1, h2, h3⟩ := ht
  have d2 : DownAt S p.D W x L' M' pl' t' := ⟨d.xS, (row_below hW d.ltx).trans d.rx, d.LS, d.LD, d.psk, d.dn, (row_below hW d.ltL).trans d.rL⟩
  exact (h.below hW).link d2 b h1 h2 h3))
 have hrx2 := hrx
 unfold endV at hrx2
 obtain ⟨n, hn⟩ : ∃ n, p.es.length = n := ⟨_, rfl⟩
 rw [hn] at hnd n32 hq
 have hqI : (q : Int) < (n : Int) := by omega
 have HL := h_ hL
 clear hH h hx hL d hrx hp
 obtain ⟨id, ma, he, de, ageing, pa, pn, cap, mac, B, spn, eb, ec, qq, es, D⟩ := p
 dsimp only at *
 clear hn
 go_enter Tryz.func22, Tryz.ntmps22
 obtain ⟨w1, hw1⟩ : ∃ x, w.alloc (.cells (zeros 32 (Value.int .u8 0)).toArray 28) = x := ⟨_, rfl⟩
 have b1 : Below w.heap.size w w1 := by rw [← hw1]; exact ba_
 have rK1 : row w1 w.heap.size = (zeros 32 (Value.int .u8 0)).toArray := by rw [← hw1]; exact row_alloc_at _ _ _ rfl
 have z1 : w1.heap.size = w.heap.size + 1 := by rw [← hw1, alloc_sizeW]
 go_wp2_with fail
 (try rw [hw1])
 (try clear hw1)
 (with_reducible refine (HH.out _ b1).mono ?_)
 rintro e w2 ⟨rfl, b2⟩
 have z2 := b2.size
 have B2 : Below w.heap.size w w2 := b1.trans (b2.mono (by omega))
 have rN2 := (row_below B2 zN).trans hnd
 have hc2 := cell_belowN hc ze B2
 have rx2 := (row_below B2 zx).trans hrx2
 have rK2 := (row_below b2 (show w.heap.size < w1.heap.size by omega)).trans rK1
 have k2 : w.heap.size < w2.heap.size := by omega
 have nKL : w.heap.size ≠ L' := by omega
 clear rK1 hc hrx2 hnd z1 b1 b2 z2
 simp only [Option.isSome_some]
 obtain ⟨V, hV⟩ : ∃ V, w.heap.size = V := ⟨_, rfl⟩
 rw [hV] at rK2 k2 nKL
 have hzL2 : L' < w2.heap.size := by have := B2.size; omega
 have hzx2 : x < w2.heap.size := by have := B2.size; omega
 go_wp2_with fail
 (try rw [hV])
 have hG : GrowP fun W => BelowS w2.heap.size [L'] w2 W := fun w w' h hb => h.trans ((BelowS.of hb).mono h.size)
 refine rgX_ [(x, #[Value.pointer (some ⟨L', 0, none⟩), Value.map (some M), Value.int .i64 pl, Value.bool false, Value.int .i64 0]), (V, (zeros 32 (Value.int .u8 0)).toArray)] (fun W => BelowS w2.heap.size [L'] w2 W) hG (BelowS.of (Below.refl _ _)) (fun hS => ?_)
 refine sp 0 hG hS ?_
 refine sp 1 hG hS ?_
 refine sp 2 hG hS ?_
 refine sp 3 hG hS ?_
 refine sp 4 hG hS ?_
 refine sp 5 hG hS ?_
 refine wpAnyR_op1 6 kr_ (fun u hu => ?_)
 refine wpOp_step rfl (fun K hK => ?_)
 go_simp
 have hu2 : Below w2.heap.size w2 u := below_step (Below.drew (Below.refl _ _)) hu
 have zu := hu2.size
 (with_reducible refine (HT.out _ (B2.trans (hu2.mono B2.size))).mono ?_)
 rintro e u3 ⟨v, er, rfl, hv, ht, b3⟩
 have z3 := b3.size
 have hS : XS [(x, #[Value.pointer (some ⟨L', 0, none⟩), Value.map (some M), Value.int .i64 pl, Value.bool false, Value.int .i64 0]), (V, (zeros 32 (Value.int .u8 0)).toArray)] (fun W => BelowS w2.heap.size [L'] w2 W) u3 :=
  ⟨⟨((b3.row (by omega) nxL).trans (row_below hu2 hzx2)).trans rx2, by omega, ((b3.row (by omega) nKL).trans (row_below hu2 k2)).trans rK2, by omega, trivial⟩, (BelowS.of hu2).trans ((BelowS.one b3 (by simp)).mono zu)⟩
 refine hK _ _ ⟨hS, ?_⟩
 clear hK K
 (try simp only [Act.put, List.setIfInBounds_toArray, List.set_cons_zero, List.set_cons_succ])
 refine sp 7 hG hS ?_
 refine sp 8 hG hS ?_
 refine sp 9 hG hS ?_
 refine sp 10 hG hS ?_
 refine sp 11 hG hS ?_
 refine sp 12 hG hS ?_
 refine sp 13 hG hS ?_
 refine wpAnyR_done kr_ (fun w9 bw9 => ?_) _
 have hQ3 := HQ.out u (B2.trans (hu2.mono B2.size)) u3 b3 ht
 have hQ9 := hQ3.below bw9
 have BB9 : BelowBut w.heap.size L' w w9 := (BelowBut.of (B2.trans (hu2.mono B2.size))).trans ((b3.mono (by have := B2.size; omega)).trans ((BelowBut.of bw9).mono (by have := B2.size; omega)))
 have hQ' := h_ hQ9
 have HBB := h_ BB9
 have zz9 := bw9.size
 have hv9 : v = .slice none 0 0 ∨ ∃ q x, v = .slice (some ⟨q, 0, none⟩) 1 1 ∧ row w9 q = #[.string x] ∧ q < w9.heap.size := by
  rcases hv with e | ⟨q, x, e, rq, _, zq⟩
  ·
   exact .inl e
  ·
   exact .inr ⟨q, x, e, (row_below bw9 zq).trans rq, by omega⟩
 have kw9 : w.heap.size ≤ w9.heap.size := by have := B2.size; omega
 have nB : N < w.heap.size := zN
 clear hS bw9 hu hu2 b3 hQ3 hQ9 BB9 rN2 hc2 rx2 rK2 hv ht HT HQ HH HL
 rcases hv9 with rfl | ⟨qb, xs, rfl, rq, zq⟩
 ·
  go_wp2_with fail
  refine wp_loop_rounds 1 ?_
  rw [rounds_succ]
  have B0 : Below w9.heap.size w9 w9 := Below.refl _ _
  by_cases he0 : er = 0
  all_goals
   have he1 : (er == 0) = decide (er = 0) := by simp [he0]
   first | rw [decide_eq_true he0] at he1 | rw [decide_eq_false he0] at he1
   have HST := h_ (settled_any (hQ'.out.below B0))
   go_wp2_with fail
   (with_reducible refine HST.out.mono ?_)
   rintro e w20 ⟨rfl, b20⟩
   have B20 : Below w9.heap.size w9 w20 := (B0).trans (b20.mono (B0).size)
   have HO20 := h_ (OwnL.nil w20 w9.heap.size 54 3)
   have k20 : w9.heap.size ≤ w20.heap.size := B20.size
   have honN : ∀ y ∈ ([] : List (List Value)), ones y = true := fun y hy => by cases hy
   have HL0 := h_ (show ([] : List (List Value)).length + ([] : List (List Value)).length ≤ 10000 by simp)
   go_wp2_with (at_builtin; (refine wpList_appendLs rfl rfl Tryz.underlying46 outNInfo (by decide) (by decide) w9.heap.size _ _ rfl HO20.out w20.heap.size _ _ rfl (OwnL.nil _ _ _ _) honN HL0.out k20 ?_))
   intro v21 w21 hown21 b21
   have B21 : Below w9.heap.size w9 w21 := B20.trans b21
   have HQX := h_ (hQ'.out.below B21)
   have HBX := h_ (HBB.out.trans ((BelowBut.of B21).mono kw9))
   clear hown21
   go_wp2_with fail
   go_ret2
   exact ⟨⟨_, _, rfl⟩, HQX.out, HBX.out⟩
 ·
  have HL1 := h_ (show ([] : List (List Value)).length ≤ 10000 by simp)
  go_wp2_with fail
  refine wp_loop_rounds 2 ?_
  rw [rounds_succ]
  go_wp2_with (at_builtin; (refine wpList_appendB rfl rfl Tryz.underlying46 outNInfo (by decide) (by decide) w9.heap.size _ _ rfl (OwnL.nil _ _ _ _) [Value.int .i64 (q : Int), .bool true, .string xs] rfl rfl rfl HL1.out (Nat.le_refl _) ?_))
  intro v13 w13 hown13 B0 _
  have HO13 := h_ hown13
  clear hown13
  go_wp2_with fail
  rw [rounds_succ]
  by_cases he0 : er = 0
  all_goals
   have he1 : (er == 0) = decide (er = 0) := by simp [he0]
   first | rw [decide_eq_true he0] at he1 | rw [decide_eq_false he0] at he1
   have HST := h_ (settled_any (hQ'.out.below B0))
   go_wp2_with fail
   (with_reducible refine HST.out.mono ?_)
   rintro e w20 ⟨rfl, b20⟩
   have B20 : Below w9.heap.size w9 w20 := (B0).trans (b20.mono (B0).size)
   have HO20 := h_ (HO13.out.below b20)
   have k20 : w9.heap.size ≤ w20.heap.size := B20.size
   have honN : ∀ y ∈ ([] : List (List Value)), ones y = true := fun y hy => by cases hy
   have HL0 := h_ (show ([] ++ [[Value.int .i64 (q : Int), .bool true, .string xs]] : List (List Value)).length + ([] : List (List Value)).length ≤ 10000 by simp)
   go_wp2_with (at_builtin; (refine wpList_appendLs rfl rfl Tryz.underlying46 outNInfo (by decide) (by decide) w9.heap.size _ _ rfl HO20.out w20.heap.size _ _ rfl (OwnL.nil _ _ _ _) honN HL0.out k20 ?_))
   intro v21 w21 hown21 b21
   have B21 : Below w9.heap.size w9 w21 := B20.trans b21
   have HQX := h_ (hQ'.out.below B21)
   have HBX := h_ (HBB.out.trans ((BelowBut.of B21).mono kw9))
   clear hown21
   go_wp2_with fail
   go_ret2
   exact ⟨⟨_, _, rfl⟩, HQX.out, HBX.out⟩
end
section
open Go.RowKit Go.Shelf
theorem NodeT.linkAt {w0 w : World} {N Q : Nat} {id : Vector UInt8 8} {ma he de ageing : Int} {pa : Option Addr} {cap : Nat} {ps : List PortX} {mac : Vector UInt8 6} {r k p d room : Int} {A : BrA} {sp ea : Option Addr} {ec : Nat} {es : List (Option Nat)} {j : Nat}
  (h : NodeT w0 w N Q id ma he de ageing pa cap ps mac r k p d room A sp ea ec es j) {q : Nat} (hq : q < ps.length) (hl : ps[q].link = true) : ∃ x L M pl, es[q]? = some (some x) ∧ row w x = endV L M pl ∧ row w L = (newT ps[q].psk.toList ps[q].greets r k p d).cells.toArray ∧ w0.heap.size ≤ L := by
 obtain ⟨B, wC, h1, h2, h3, h4, h5, h6, h7⟩ := h.own
 rcases h4.2 q ps[q] (List.getElem?_eq_getElem hq) with ⟨g1, _⟩ | ⟨_, x, g2, g3, L, M, pl, g4, g5, g6⟩
 ·
  rw [hl] at g1; cases g1
 ·
  have := h.gN
  exact ⟨x, L, M, pl, g2, (row_of_block (h6 x g3 (Array.getElem?_eq_some_iff.1 g4).1)).trans (row_endAt g4), (row_of_block (h6 L g5 (lt_of_row (i := 0) (by rw [g6]; simp [newT, LinkT.cells])))).trans g6, by omega⟩
section
variable (id : Vector UInt8 8) (ma he de ageing : Int) (pa : Option Addr) (cap : Nat) (ps : List PortX) (r k p d room port : Int) (s : List UInt8) (w : World) (h : PXOff [] w pa ps)
include h
theorem nodeRefuses_many (hf : fewC ps = false) :
  Calls Tryz.prog 5 #[.agg (confV id ma he de ageing pa ps.length cap).toArray, .agg #[Value.int .i64 r, .int .i64 k, .int .i64 p, .int .i64 d], .int .i64 room, .int .i64 port, .string ⟨s.toArray⟩] w fun e w' => e = .returned (.bool true) ∧ Below w.heap.size w w' := by
 have HFW := h_ (fun (W : World) (hW : Below w.heap.size w W) => fewC_any id ma he de ageing pa cap ps W (h.below hW))
 rw [hf] at HFW
 simp only [Bool.false_eq_true, if_false] at HFW
 unfold confV at HFW ⊢
 go_enter Tryz.func5, Tryz.ntmps5
 obtain ⟨w1, hw1⟩ : ∃ x, (w.alloc (.cells (u8v id ++ [Value.int .i64 ma, Value.int .i64 he, Value.int .i64 de, Value.int .i64 ageing, Value.slice pa ps.length cap]).toArray 25)).alloc (.cells #[Value.int .i64 r, .int .i64 k, .int .i64 p, .int .i64 d] 70) = x := ⟨_, rfl⟩
 have b1 : Below w.heap.size w w1 := by rw [← hw1]; exact Below.alloc (ba_) (by simp) _
 have z1 : w1.heap.size = w.heap.size + 2 := by rw [← hw1, alloc_sizeW, alloc_sizeW]
 have rC1 : row w1 w.heap.size = (u8v id ++ [Value.int .i64 ma, Value.int .i64 he, Value.int .i64 de, Value.int .i64 ageing, Value.slice pa ps.length cap]).toArray := by rw [← hw1]; simp [go_sem]
 have rT1 : row w1 (w.heap.size + 1) = #[Value.int .i64 r, .int .i64 k, .int .i64 p, .int .i64 d] := by rw [← hw1]; simp [go_sem]
 have kC : w.heap.size < w1.heap.size := by omega
 have kT : w.heap.size + 1 < w1.heap.size := by omega
 clear z1
 go_wp2_with fail
 (try rw [hw1])
 (try clear hw1)
 (with_reducible refine (awake25_any _).mono ?_)
 rintro e w2 ⟨rfl, b2⟩
 have z2 := b2.size
 have B2 : Below w.heap.size w w2 := b1.trans (b2.mono (by omega))
 have rC2 := (row_below b2 kC).trans rC1
 have rT2 := (row_below b2 kT).trans rT1
 clear rC1 rT1 b1 b2
 go_wp2_with fail
 (with_reducible refine (HFW.out _ B2).mono ?_)
 rintro e w3 ⟨rfl, b3⟩
 have z3 := b3.size
 have B3 : Below w.heap.size w w3 := B2.trans (b3.mono (by omega))
 have rC3 := (row_below b3 (show w.heap.size < w2.heap.size by omega)).trans rC2
 have rT3 := (row_below b3 (show w.heap.size + 1 < w2.heap.size by omega)).trans rT2
 have kC3 : w.heap.size < w3.heap.size := by omega
 have kT3 : w.heap.size + 1 < w3.heap.size := by omega
 clear rC2 rT2 b3 B2 HFW
 go_wp2_with fail
 (with_reducible refine (awake25_any _).mono ?_)
 rintro e w4 ⟨rfl, b4⟩
 go_wp2_with fail
 go_ret
 exact ⟨rfl, B3.trans (b4.mono (by omega))⟩
theorem nodeRefuses_long (hf : fewC ps = true) (hl : 2000 < s.length) :
  Calls Tryz.prog 5 #[.agg (confV id ma he de ageing pa ps.length cap).toArray, .agg #[Value.int .i64 r, .int .i64 k, .int .i64 p, .int .i64 d], .int .i64 room, .int .i64 port, .string ⟨s.toArray⟩] w fun e w' => e = .returned (.bool true) ∧ Below w.heap.size w w' := by
 have hlI : (2000 : Int) < (s.length : Int) := by omega
 have HFW := h_ (fun (W : World) (hW : Below w.heap.size w W) => fewC_any id ma he de ageing pa cap ps W (h.below hW))
 rw [hf] at HFW
 simp only [if_true] at HFW
 unfold confV at HFW ⊢
 go_enter Tryz.func5, Tryz.ntmps5
 obtain ⟨w1, hw1⟩ : ∃ x, (w.alloc (.cells (u8v id ++ [Value.int .i64 ma, Value.int .i64 he, Value.int .i64 de, Value.int .i64 ageing, Value.slice pa ps.length cap]).toArray 25)).alloc (.cells #[Value.int .i64 r, .int .i64 k, .int .i64 p, .int .i64 d] 70) = x := ⟨_, rfl⟩
 have b1 : Below w.heap.size w w1 := by rw [← hw1]; exact Below.alloc (ba_) (by simp) _
 have z1 : w1.heap.size = w.heap.size + 2 := by rw [← hw1, alloc_sizeW, alloc_sizeW]
 have rC1 : row w1 w.heap.size = (u8v id ++ [Value.int .i64 ma, Value.int .i64 he, Value.int .i64 de, Value.int .i64 ageing, Value.slice pa ps.length cap]).toArray := by rw [← hw1]; simp [go_sem]
 have rT1 : row w1 (w.heap.size + 1) = #[Value.int .i64 r, .int .i64 k, .int .i64 p, .int .i64 d] := by rw [← hw1]; simp [go_sem]
 have kC : w.heap.size < w1.heap.size := by omega
 have kT : w.heap.size + 1 < w1.heap.size := by omega
 clear z1
 go_wp2_with fail
 (try rw [hw1])
 (try clear hw1)
 (with_reducible refine (awake25_any _).mono ?_)
 rintro e w2 ⟨rfl, b2⟩
 have z2 := b2.size
 have B2 : Below w.heap.size w w2 := b1.trans (b2.mono (by omega))
 have rC2 := (row_below b2 kC).trans rC1
 have rT2 := (row_below b2 kT).trans rT1
 clear rC1 rT1 b1 b2
 go_wp2_with fail
 (with_reducible refine (HFW.out _ B2).mono ?_)
 rintro e w3 ⟨rfl, b3⟩
 have z3 := b3.size
 have B3 : Below w.heap.size w w3 := B2.trans (b3.mono (by omega))
 have rC3 := (row_below b3 (show w.heap.size < w2.heap.size by omega)).trans rC2
 have rT3 := (row_below b3 (show w.heap.size + 1 < w2.heap.size by omega)).trans rT2
 have kC3 : w.heap.size < w3.heap.size := by omega
 have kT3 : w.heap.size + 1 < w3.heap.size := by omega
 clear rC2 rT2 b3 B2 HFW
 go_wp2_with fail
 (with_reducible refine (awake25_any _).mono ?_)
 rintro e w4 ⟨rfl, b4⟩
 go_wp2_with fail
 go_ret
 exact ⟨rfl, B3.trans (b4.mono (by omega))⟩
theorem nodeRefuses_bad (hf : fewC ps = true) (hl : s.length ≤ 2000) (hb : newOkN room r k p d ma he de ageing ps = false) :
  Calls Tryz.prog 5 #[.agg (confV id ma he de ageing pa ps.length cap).toArray, .agg #[Value.int .i64 r, .int .i64 k, .int .i64 p, .int .i64 d], .int .i64 room, .int .i64 port, .string ⟨s.toArray⟩] w fun e w' => e = .returned (.bool true) ∧ Below w.heap.size w w' := by
 have hlI : ¬ (2000 : Int) < (s.length : Int) := by omega
 have hn50 : ps.length ≤ 50 := by unfold fewC at hf; simp only [Bool.and_eq_true, decide_eq_true_eq] at hf; exact hf.1
 have HOF := h_ (fun (W : World) (hW : Below w.heap.size w W) => ofC_any id ma he de ageing pa cap ps W (h.below hW) (by omega))
 have HRR := h_ (fun (W : World) (hW : Below w.heap.size w W) => r23Right_any id ma he de ageing pa cap ps W (h.below hW) (by omega))
 have H15 := h_ (fun (W : World) => right15_any r k p d W)
 unfold confV at HOF HRR
 have HFW := h_ (fun (W : World) (hW : Below w.heap.size w W) => fewC_any id ma he de ageing pa cap ps W (h.below hW))
 rw [hf] at HFW
 simp only [if_true] at HFW
 unfold confV at HFW ⊢
 go_enter Tryz.func5, Tryz.ntmps5
 obtain ⟨w1, hw1⟩ : ∃ x, (w.alloc (.cells (u8v id ++ [Value.int .i64 ma, Value.int .i64 he, Value.int .i64 de, Value.int .i64 ageing, Value.slice pa ps.length cap]).toArray 25)).alloc (.cells #[Value.int .i64 r, .int .i64 k, .int .i64 p, .int .i64 d] 70) = x := ⟨_, rfl⟩
 have b1 : Below w.heap.size w w1 := by rw [← hw1]; exact Below.alloc (ba_) (by simp) _
 have z1 : w1.heap.size = w.heap.size + 2 := by rw [← hw1, alloc_sizeW, alloc_sizeW]
 have rC1 : row w1 w.heap.size = (u8v id ++ [Value.int .i64 ma, Value.int .i64 he, Value.int .i64 de, Value.int .i64 ageing, Value.slice pa ps.length cap]).toArray := by rw [← hw1]; simp [go_sem]
 have rT1 : row w1 (w.heap.size + 1) = #[Value.int .i64 r, .int .i64 k, .int .i64 p, .int .i64 d] := by rw [← hw1]; simp [go_sem]
 have kC : w.heap.size < w1.heap.size := by omega
 have kT : w.heap.size + 1 < w1.heap.size := by omega
 clear z1
 go_wp2_with fail
 (try rw [hw1])
 (try clear hw1)
 (with_reducible refine (awake25_any _).mono ?_)
 rintro e w2 ⟨rfl, b2⟩
 have z2 := b2.size
 have B2 : Below w.heap.size w w2 := b1.trans (b2.mono (by omega))
 have rC2 := (row_below b2 kC).trans rC1
 have rT2 := (row_below b2 kT).trans rT1
 clear rC1 rT1 b1 b2
 go_wp2_with fail
 (with_reducible refine (HFW.out _ B2).mono ?_)
 rintro e w3 ⟨rfl, b3⟩
 have z3 := b3.size
 have B3 : Below w.heap.size w w3 := B2.trans (b3.mono (by omega))
 have rC3 := (row_below b3 (show w.heap.size < w2.heap.size by omega)).trans rC2
 have rT3 := (row_below b3 (show w.heap.size + 1 < w2.heap.size by omega)).trans rT2
 have kC3 : w.heap.size < w3.heap.size := by omega
 have kT3 : w.heap.size + 1 < w3.heap.size := by omega
 clear rC2 rT2 b3 B2 HFW
 go_wp2_with fail
 have hG : GrowP fun W => Below w3.heap.size w3 W := grow_base w3
 obtain ⟨C, hC⟩ : ∃ C, w.heap.size = C := ⟨_, rfl⟩
 have HCC := h_ hC
 rw [hC] at rC3 kC3 rT3 kT3
 (try rw [hC])
 clear hC
 refine rgX_ [(C, (u8v id ++ [Value.int .i64 ma, Value.int .i64 he, Value.int .i64 de, Value.int .i64 ageing, Value.slice pa ps.length cap]).toArray), (C + 1, #[Value.int .i64 r, .int .i64 k, .int .i64 p, .int .i64 d])] (fun W => Below w3.heap.size w3 W) hG (Below.refl _ _) (fun hS => ?_)
 refine sp 0 hG hS ?_
 refine sp 2 hG hS ?_
 refine sp 3 hG hS ?_
 refine sp 4 hG hS ?_
 refine sp 5 hG hS ?_
 refine sp 6 hG hS ?_
 refine sp 7 hG hS ?_
 refine sp 8 hG hS ?_
 refine sp 9 hG hS ?_
 refine sp 10 hG hS ?_
 refine sp 11 hG hS ?_
 refine wpAnyR_op1 1 kr_ (fun u hu => ?_)
 refine wpOp_step rfl (fun K hK => ?_)
 go_simp
 have hu2 : Below w3.heap.size w3 u := below_step (Below.drew (Below.refl _ _)) hu
 have zu := hu2.size
 (with_reducible refine (HOF.out u (B3.trans (hu2.mono (by omega)))).mono ?_)
 rintro e u2 ⟨⟨pa', ⟨cap', rfl⟩, hpx⟩, bu⟩
 have b32 : Below w3.heap.size w3 u2 := hu2.trans (bu.mono zu)
 have z32 := b32.size
 have hS : XS [(C, (u8v id ++ [Value.int .i64 ma, Value.int .i64 he, Value.int .i64 de, Value.int .i64 ageing, Value.slice pa ps.length cap]).toArray), (C + 1, #[Value.int .i64 r, .int .i64 k, .int .i64 p, .int .i64 d])] (fun W => Below w3.heap.size w3 W) u2 := ⟨⟨(row_below b32 kC3).trans rC3, by omega, (row_below b32 kT3).trans rT3, by omega, trivial⟩, b32⟩
 refine hK _ _ ⟨hS, ?_⟩
 clear hK K
 (try simp only [Act.put, List.setIfInBounds_toArray, List.set_cons_zero, List.set_cons_succ])
 refine wpAnyR_op1 12 kr_ (fun y hy => ?_)
 refine wpOp_step rfl (fun K hK => ?_)
 go_simp
 have zy := hy.size
 have b3y : Below w3.heap.size w3 y := b32.trans (hy.mono z32)
 have hN := nodeNew_any id ma he de ageing pa' cap' ps r k p d room y (hpx.below hy) (by omega)
 unfold confV at hN
 (with_reducible refine hN.mono ?_)
 rintro e y2 (⟨hnb, rfl, bN⟩ | ⟨hnb, N, rfl, Q, mac, A, spx, ea, ec, es, hT⟩)
 rotate_left
 ·
  exact absurd hnb (by rw [hb]; decide)
 have zN := bN.size
 have zy3 := b3y.size
 have b3y2 : Below w3.heap.size w3 y2 := b3y.trans (bN.mono zy3)
 have hS : XS [(C, (u8v id ++ [Value.int .i64 ma, Value.int .i64 he, Value.int .i64 de, Value.int .i64 ageing, Value.slice pa ps.length cap]).toArray), (C + 1, #[Value.int .i64 r, .int .i64 k, .int .i64 p, .int .i64 d])] (fun W => Below w3.heap.size w3 W) y2 := ⟨⟨(row_below b3y2 kC3).trans rC3, by omega, (row_below b3y2 kT3).trans rT3, by omega, trivial⟩, b3y2⟩
 refine hK _ _ ⟨hS, ?_⟩
 clear hK K
 (try simp only [Act.put, List.setIfInBounds_toArray, List.set_cons_zero, List.set_cons_succ])
 refine sp 13 hG hS ?_
 refine sp 14 hG hS ?_
 refine sp 15 hG hS ?_
 refine sp 16 hG hS ?_
 refine sp 17 hG hS ?_
 refine wpAnyR_done kr_ (fun y3 by3 => ?_) _
 have b3y3 : Below w3.heap.size w3 y3 := b3y2.trans (by3.mono b3y2.size)
 have z33 := b3y3.size
 have BY : Below w.heap.size w y3 := B3.trans (b3y3.mono (by have := HCC.out; omega))
 have rC := (row_below b3y3 kC3).trans rC3
 have rT := (row_below b3y3 kT3).trans rT3
 have kCy : C < y3.heap.size := by omega
 have kTy : C + 1 < y3.heap.size := by omega
 have hcase : rightC ma he de ageing ps = false ∨ (rightC ma he de ageing ps = true ∧ decide (okTimes r k p d) = false) ∨ (rightC ma he de ageing ps = true ∧ decide (okTimes r k p d) = true ∧ room < 1) ∨ (rightC ma he de ageing ps = true ∧ decide (okTimes r k p d) = true ∧ 1 ≤ room ∧ 65536 < room) := by
  unfold newOkN at hb
  cases h1 : rightC ma he de ageing ps with
  | false => exact .inl rfl
  | true =>
   cases h2 : decide (okTimes r k p d) with
   | false => exact .inr (.inl ⟨rfl, rfl⟩)
   | true =>
    rw [h1, h2, Bool.and_true, Bool.and_true, decide_eq_false_iff_not] at hb
    by_cases h3 : room < 1
    ·
     exact .inr (.inr (.inl ⟨rfl, rfl, h3⟩))
    ·
     exact .inr (.inr (.inr ⟨rfl, rfl, by omega, by omega⟩))
 clear hS by3 b3y2 b3y b32 bN hb hnb hu hu2 hy bu hpx hN rC3 rT3 hf HOF B3 b3y3
 obtain ⟨V, hV⟩ : ∃ V : World → Prop, V = fun _ => True := ⟨_, rfl⟩
 clear hV V
 rcases hcase with h1 | ⟨h1, h2⟩ | ⟨h1, h2, h3⟩ | ⟨h1, h2, h3, h4⟩
 ·
  rw [h1] at HRR
  go_wp2_with fail
  (with_reducible refine (HRR.out _ BY).mono ?_)
  rintro e v1 ⟨rfl, c1⟩
  have zc1 := c1.size
  have B1 := BY.trans (c1.mono (by have := BY.size; omega))
  have rCa := (row_below c1 kCy).trans rC
  have rTa := (row_below c1 kTy).trans rT
  have kC1 : C < v1.heap.size := by omega
  have kT1 : C + 1 < v1.heap.size := by omega
  have BV := B1
  have rV := rCa
  have kV := kC1
  have hz5 : zeros 5 (Value.int .i64 0) = [.int .i64 0, .int .i64 0, .int .i64 0, .int .i64 0, .int .i64 0] := rfl
  go_wp2_with fail
  (with_reducible refine (nTake_nil _ _ _).mono ?_)
  rintro e n0 ⟨rfl, d0⟩
  have zd0 := d0.size
  have D0 := (BV).trans (d0.mono (by have := (BV).size; omega))
  have rD0 := (row_below d0 kV).trans rV
  have kD0 : C < n0.heap.size := by omega
  go_wp2_with fail
  (with_reducible refine (nCounts_nil _).mono ?_)
  rintro e n1 ⟨rfl, d1⟩
  have zd1 := d1.size
  have D1 := (D0).trans (d1.mono (by have := (D0).size; omega))
  have rD1 := (row_below d1 kD0).trans rD0
  have kD1 : C < n1.heap.size := by omega
  obtain ⟨m1, hm1⟩ : ∃ x, n1.alloc (.cells #[Value.int .i64 0, .int .i64 0, .int .i64 0, .int .i64 0, .int .i64 0] 76) = x := ⟨_, rfl⟩
  have dm : Below n1.heap.size n1 m1 := by rw [← hm1]; exact ba_
  have rXm : row m1 n1.heap.size = #[Value.int .i64 0, .int .i64 0, .int .i64 0, .int .i64 0, .int .i64 0] := by rw [← hm1]; exact row_alloc_at _ _ _ rfl
  have kXm : n1.heap.size < m1.heap.size := by rw [← hm1, alloc_sizeW]; omega
  have hsm := setRow_row_eq rXm (by simp)
  have DM := D1.trans (dm.mono (by have := D1.size; omega))
  have rDM := (row_below dm kD1).trans rD1
  have kDM : C < m1.heap.size := by omega
  go_wp2_with fail
  (with_reducible refine (nInject_nil _ _ _).mono ?_)
  rintro e n2 ⟨rfl, d2⟩
  have zd2 := d2.size
  have D2 := (DM).trans (d2.mono (by have := (DM).size; omega))
  have rD2 := (row_below d2 kDM).trans rDM
  have kD2 : C < n2.heap.size := by omega
  have rX2 := (row_below d2 kXm).trans rXm
  have kX2 : n1.heap.size < n2.heap.size := by omega
  go_wp2_with fail
  (with_reducible refine (nRun_nil _).mono ?_)
  rintro e n3 ⟨rfl, d3⟩
  have zd3 := d3.size
  have D3 := (D2).trans (d3.mono (by have := (D2).size; omega))
  have rD3 := (row_below d3 kD2).trans rD2
  have kD3 : C < n3.heap.size := by omega
  have rX3 := (row_below d3 kX2).trans rX2
  have kX3 : n1.heap.size < n3.heap.size := by omega
  go_wp2_with fail
  (with_reducible refine (nTick_nil _).mono ?_)
  rintro e n4 ⟨rfl, d4⟩
  have zd4 := d4.size
  have D4 := (D3).trans (d4.mono (by have := (D3).size; omega))
  have rD4 := (row_below d4 kD3).trans rD3
  have kD4 : C < n4.heap.size := by omega
  have rX4 := (row_below d4 kX3).trans rX3
  have kX4 : n1.heap.size < n4.heap.size := by omega
  go_wp2_with fail
  (with_reducible refine (nState_nil _ _).mono ?_)
  rintro e n5 ⟨rfl, e5⟩
  subst e5
  go_wp2_with fail
  (with_reducible refine (nUp_nil _ _).mono ?_)
  rintro e n6 ⟨rfl, e6⟩
  subst e6
  go_wp2_with fail
  go_ret
  exact ⟨rfl, D4⟩
 all_goals
  rw [h1] at HRR
  rw [h2] at H15
  first
  | (have h4b : decide (room ≤ 65536) = false := decide_eq_false (by omega); have h3b : decide (1 ≤ room) = true := decide_eq_true h3)
  | have h3b : decide (1 ≤ room) = false := decide_eq_false (by omega)
  | skip
  go_wp2_with fail
  (with_reducible refine (HRR.out _ BY).mono ?_)
  rintro e v1 ⟨rfl, c1⟩
  have zc1 := c1.size
  have B1 := BY.trans (c1.mono (by have := BY.size; omega))
  have rCa := (row_below c1 kCy).trans rC
  have rTa := (row_below c1 kTy).trans rT
  have kC1 : C < v1.heap.size := by omega
  have kT1 : C + 1 < v1.heap.size := by omega
  go_wp2_with fail
  (with_reducible refine (H15.out _).mono ?_)
  rintro e v2 ⟨rfl, c2⟩
  have zc2 := c2.size
  have B2 := B1.trans (c2.mono (by have := B1.size; omega))
  have rCb := (row_below c2 kC1).trans rCa
  have kC2 : C < v2.heap.size := by omega
  clear rTa rCa
  have BV := B2
  have rV := rCb
  have kV := kC2
  have hz5 : zeros 5 (Value.int .i64 0) = [.int .i64 0, .int .i64 0, .int .i64 0, .int .i64 0, .int .i64 0] := rfl
  go_wp2_with fail
  (with_reducible refine (nTake_nil _ _ _).mono ?_)
  rintro e n0 ⟨rfl, d0⟩
  have zd0 := d0.size
  have D0 := (BV).trans (d0.mono (by have := (BV).size; omega))
  have rD0 := (row_below d0 kV).trans rV
  have kD0 : C < n0.heap.size := by omega
  go_wp2_with fail
  (with_reducible refine (nCounts_nil _).mono ?_)
  rintro e n1 ⟨rfl, d1⟩
  have zd1 := d1.size
  have D1 := (D0).trans (d1.mono (by have := (D0).size; omega))
  have rD1 := (row_below d1 kD0).trans rD0
  have kD1 : C < n1.heap.size := by omega
  obtain ⟨m1, hm1⟩ : ∃ x, n1.alloc (.cells #[Value.int .i64 0, .int .i64 0, .int .i64 0, .int .i64 0, .int .i64 0] 76) = x := ⟨_, rfl⟩
  have dm : Below n1.heap.size n1 m1 := by rw [← hm1]; exact ba_
  have rXm : row m1 n1.heap.size = #[Value.int .i64 0, .int .i64 0, .int .i64 0, .int .i64 0, .int .i64 0] := by rw [← hm1]; exact row_alloc_at _ _ _ rfl
  have kXm : n1.heap.size < m1.heap.size := by rw [← hm1, alloc_sizeW]; omega
  have hsm := setRow_row_eq rXm (by simp)
  have DM := D1.trans (dm.mono (by have := D1.size; omega))
  have rDM := (row_below dm kD1).trans rD1
  have kDM : C < m1.heap.size := by omega
  go_wp2_with fail
  (with_reducible refine (nInject_nil _ _ _).mono ?_)
  rintro e n2 ⟨rfl, d2⟩
  have zd2 := d2.size
  have D2 := (DM).trans (d2.mono (by have := (DM).size; omega))
  have rD2 := (row_below d2 kDM).trans rDM
  have kD2 : C < n2.heap.size := by omega
  have rX2 := (row_below d2 kXm).trans rXm
  have kX2 : n1.heap.size < n2.heap.size := by omega
  go_wp2_with fail
  (with_reducible refine (nRun_nil _).mono ?_)
  rintro e n3 ⟨rfl, d3⟩
  have zd3 := d3.size
  have D3 := (D2).trans (d3.mono (by have := (D2).size; omega))
  have rD3 := (row_below d3 kD2).trans rD2
  have kD3 : C < n3.heap.size := by omega
  have rX3 := (row_below d3 kX2).trans rX2
  have kX3 : n1.heap.size < n3.heap.size := by omega
  go_wp2_with fail
  (with_reducible refine (nTick_nil _).mono ?_)
  rintro e n4 ⟨rfl, d4⟩
  have zd4 := d4.size
  have D4 := (D3).trans (d4.mono (by have := (D3).size; omega))
  have rD4 := (row_below d4 kD3).trans rD3
  have kD4 : C < n4.heap.size := by omega
  have rX4 := (row_below d4 kX3).trans rX3
  have kX4 : n1.heap.size < n4.heap.size := by omega
  go_wp2_with fail
  (with_reducible refine (nState_nil _ _).mono ?_)
  rintro e n5 ⟨rfl, e5⟩
  subst e5
  go_wp2_with fail
  (with_reducible refine (nUp_nil _ _).mono ?_)
  rintro e n6 ⟨rfl, e6⟩
  subst e6
  go_wp2_with fail
  go_ret
  exact ⟨rfl, D4⟩
theorem nodeRefuses_good (hf : fewC ps = true) (hl : s.length ≤ 2000) (hb : newOkN room r k p d ma he de ageing ps = true) :
  Calls Tryz.prog 5 #[.agg (confV id ma he de ageing pa ps.length cap).toArray, .agg #[Value.int .i64 r, .int .i64 k, .int .i64 p, .int .i64 d], .int .i64 room, .int .i64 port, .string ⟨s.toArray⟩] w fun e w' => e = .returned (.bool true) ∧ Below w.heap.size w w' := by
 have hlI : ¬ (2000 : Int) < (s.length : Int) := by omega
 have hn50 : ps.length ≤ 50 := by unfold fewC at hf; simp only [Bool.and_eq_true, decide_eq_true_eq] at hf; exact hf.1
 have hnI : (ps.length : Int) ≤ 50 := by omega
 have HOF := h_ (fun (W : World) (hW : Below w.heap.size w W) => ofC_any id ma he de ageing pa cap ps W (h.below hW) (by omega))
 have HRR := h_ (fun (W : World) (hW : Below w.heap.size w W) => r23Right_any id ma he de ageing pa cap ps W (h.below hW) (by omega))
 have H15 := h_ (fun (W : World) => right15_any r k p d W)
 unfold confV at HOF HRR
 have HFW := h_ (fun (W : World) (hW : Below w.heap.size w W) => fewC_any id ma he de ageing pa cap ps W (h.below hW))
 rw [hf] at HFW
 simp only [if_true] at HFW
 unfold confV at HFW ⊢
 go_enter Tryz.func5, Tryz.ntmps5
 obtain ⟨w1, hw1⟩ : ∃ x, (w.alloc (.cells (u8v id ++ [Value.int .i64 ma, Value.int .i64 he, Value.int .i64 de, Value.int .i64 ageing, Value.slice pa ps.length cap]).toArray 25)).alloc (.cells #[Value.int .i64 r, .int .i64 k, .int .i64 p, .int .i64 d] 70) = x := ⟨_, rfl⟩
 have b1 : Below w.heap.size w w1 := by rw [← hw1]; exact Below.alloc (ba_) (by simp) _
 have z1 : w1.heap.size = w.heap.size + 2 := by rw [← hw1, alloc_sizeW, alloc_sizeW]
 have rC1 : row w1 w.heap.size = (u8v id ++ [Value.int .i64 ma, Value.int .i64 he, Value.int .i64 de, Value.int .i64 ageing, Value.slice pa ps.length cap]).toArray := by rw [← hw1]; simp [go_sem]
 have rT1 : row w1 (w.heap.size + 1) = #[Value.int .i64 r, .int .i64 k, .int .i64 p, .int .i64 d] := by rw [← hw1]; simp [go_sem]
 have kC : w.heap.size < w1.heap.size := by omega
 have kT : w.heap.size + 1 < w1.heap.size := by omega
 clear z1
 go_wp2_with fail
 (try rw [hw1])
 (try clear hw1)
 (with_reducible refine (awake25_any _).mono ?_)
 rintro e w2 ⟨rfl, b2⟩
 have z2 := b2.size
 have B2 : Below w.heap.size w w2 := b1.trans (b2.mono (by omega))
 have rC2 := (row_below b2 kC).trans rC1
 have rT2 := (row_below b2 kT).trans rT1
 clear rC1 rT1 b1 b2
 go_wp2_with fail
 (with_reducible refine (HFW.out _ B2).mono ?_)
 rintro e w3 ⟨rfl, b3⟩
 have z3 := b3.size
 have B3 : Below w.heap.size w w3 := B2.trans (b3.mono (by omega))
 have rC3 := (row_below b3 (show w.heap.size < w2.heap.size by omega)).trans rC2
 have rT3 := (row_below b3 (show w.heap.size + 1 < w2.heap.size by omega)).trans rT2
 have kC3 : w.heap.size < w3.heap.size := by omega
 have kT3 : w.heap.size + 1 < w3.heap.size := by omega
 clear rC2 rT2 b3 B2 HFW
 go_wp2_with fail
 have hG : GrowP fun W => Below w3.heap.size w3 W := grow_base w3
 obtain ⟨C, hC⟩ : ∃ C, w.heap.size = C := ⟨_, rfl⟩
 have HCC := h_ hC
 rw [hC] at rC3 kC3 rT3 kT3
 (try rw [hC])
 clear hC
 refine rgX_ [(C, (u8v id ++ [Value.int .i64 ma, Value.int .i64 he, Value.int .i64 de, Value.int .i64 ageing, Value.slice pa ps.length cap]).toArray), (C + 1, #[Value.int .i64 r, .int .i64 k, .int .i64 p, .int .i64 d])] (fun W => Below w3.heap.size w3 W) hG (Below.refl _ _) (fun hS => ?_)
 refine sp 0 hG hS ?_
 refine sp 2 hG hS ?_
 refine sp 3 hG hS ?_
 refine sp 4 hG hS ?_
 refine sp 5 hG hS ?_
 refine sp 6 hG hS ?_
 refine sp 7 hG hS ?_
 refine sp 8 hG hS ?_
 refine sp 9 hG hS ?_
 refine sp 10 hG hS ?_
 refine sp 11 hG hS ?_
 refine wpAnyR_op1 1 kr_ (fun u hu => ?_)
 refine wpOp_step rfl (fun K hK => ?_)
 go_simp
 have hu2 : Below w3.heap.size w3 u := below_step (Below.drew (Below.refl _ _)) hu
 have zu := hu2.size
 (with_reducible refine (HOF.out u (B3.trans (hu2.mono (by omega)))).mono ?_)
 rintro e u2 ⟨⟨pa', ⟨cap', rfl⟩, hpx⟩, bu⟩
 have b32 : Below w3.heap.size w3 u2 := hu2.trans (bu.mono zu)
 have z32 := b32.size
 have hS : XS [(C, (u8v id ++ [Value.int .i64 ma, Value.int .i64 he, Value.int .i64 de, Value.int .i64 ageing, Value.slice pa ps.length cap]).toArray), (C + 1, #[Value.int .i64 r, .int .i64 k, .int .i64 p, .int .i64 d])] (fun W => Below w3.heap.size w3 W) u2 := ⟨⟨(row_below b32 kC3).trans rC3, by omega, (row_below b32 kT3).trans rT3, by omega, trivial⟩, b32⟩
 refine hK _ _ ⟨hS, ?_⟩
 clear hK K
 (try simp only [Act.put, List.setIfInBounds_toArray, List.set_cons_zero, List.set_cons_succ])
 refine wpAnyR_op1 12 kr_ (fun y hy => ?_)
 refine wpOp_step rfl (fun K hK => ?_)
 go_simp
 have zy := hy.size
 have b3y : Below w3.heap.size w3 y := b32.trans (hy.mono z32)
 have hN := nodeNew_any id ma he de ageing pa' cap' ps r k p d room y (hpx.below hy) (by omega)
 unfold confV at hN
 (with_reducible refine hN.mono ?_)
 rintro e y2 (⟨hnb, rfl, bN⟩ | ⟨hnb, N, rfl, Q, mac, A, spx, ea, ec, es, hT⟩)
 ·
  exact absurd hnb (by rw [hb]; decide)
 have bN := hT.low
 have zN := bN.size
 have zy3 := b3y.size
 have b3y2 : Below w3.heap.size w3 y2 := b3y.trans (bN.mono zy3)
 have hS : XS [(C, (u8v id ++ [Value.int .i64 ma, Value.int .i64 he, Value.int .i64 de, Value.int .i64 ageing, Value.slice pa ps.length cap]).toArray), (C + 1, #[Value.int .i64 r, .int .i64 k, .int .i64 p, .int .i64 d])] (fun W => Below w3.heap.size w3 W) y2 := ⟨⟨(row_below b3y2 kC3).trans rC3, by omega, (row_below b3y2 kT3).trans rT3, by omega, trivial⟩, b3y2⟩
 refine hK _ _ ⟨hS, ?_⟩
 clear hK K
 (try simp only [Act.put, List.setIfInBounds_toArray, List.set_cons_zero, List.set_cons_succ])
 refine sp 13 hG hS ?_
 refine sp 14 hG hS ?_
 refine sp 15 hG hS ?_
 refine sp 16 hG hS ?_
 refine sp 17 hG hS ?_
 refine wpAnyR_done kr_ (fun y3 by3 => ?_) _
 have b3y3 : Below w3.heap.size w3 y3 := b3y2.trans (by3.mono b3y2.size)
 have z33 := b3y3.size
 have BY : Below w.heap.size w y3 := B3.trans (b3y3.mono (by have := HCC.out; omega))
 have rC := (row_below b3y3 kC3).trans rC3
 have rT := (row_below b3y3 kT3).trans rT3
 have kCy : C < y3.heap.size := by omega
 have kTy : C + 1 < y3.heap.size := by omega
 have hb2 := hb
 unfold newOkN at hb2
 simp only [Bool.and_eq_true, decide_eq_true_eq] at hb2
 obtain ⟨⟨⟨hr1, hr2⟩, h2⟩, h1⟩ := hb2
 have h2 := decide_eq_true h2
 rw [h1] at HRR
 rw [h2] at H15
 have h3b : decide (1 ≤ room) = true := decide_eq_true hr1
 have h4b : decide (room ≤ 65536) = true := decide_eq_true hr2
 obtain ⟨eb, D, rfl, hel, hes, hQ⟩ := hT.quiet
 have HQ := h_ hQ
 have HT := h_ hT
 have HEL := h_ hel
 have HES := h_ hes
 have E0 := by3
 have hgQ : w.heap.size ≤ Q := by have := hT.gQ; have := HCC.out; omega
 have HYY := h_ (show w.heap.size ≤ y.heap.size by have := HCC.out; omega)
 clear hS by3 b3y2 b3y b32 bN hb hnb hu hu2 hy bu hpx hN rC3 rT3 hf HOF B3 b3y3 hQ hT hel hes h1 h2
 go_wp2_with fail
 (with_reducible refine (HRR.out _ BY).mono ?_)
 rintro e v1 ⟨rfl, c1⟩
 have zc1 := c1.size
 have B1 := BY.trans (c1.mono (by have := BY.size; omega))
 have rCa := (row_below c1 kCy).trans rC
 have rTa := (row_below c1 kTy).trans rT
 have kC1 : C < v1.heap.size := by omega
 have kT1 : C + 1 < v1.heap.size := by omega
 have E1 := E0.trans (c1.mono E0.size)
 go_wp2_with fail
 (with_reducible refine (H15.out _).mono ?_)
 rintro e v2 ⟨rfl, c2⟩
 have zc2 := c2.size
 have B2 := B1.trans (c2.mono (by have := B1.size; omega))
 have rCb := (row_below c2 kC1).trans rCa
 have kC2 : C < v2.heap.size := by omega
 clear rTa rCa
 have E2 := E1.trans (c2.mono E1.size)
 have hz5 : zeros 5 (Value.int .i64 0) = [.int .i64 0, .int .i64 0, .int .i64 0, .int .i64 0, .int .i64 0] := rfl
 go_wp2_with fail
 (with_reducible refine (nTake_nil _ _ _).mono ?_)
 rintro e n0 ⟨rfl, d0⟩
 have zd0 := d0.size
 have D0 := (B2).trans (d0.mono (by have := (B2).size; omega))
 have rD0 := (row_below d0 kC2).trans rCb
 have kD0 : C < n0.heap.size := by omega
 have E0 := (E2).trans (d0.mono (by have := (E2).size; omega))
 go_wp2_with fail
 (with_reducible refine (nCounts_nil _).mono ?_)
 rintro e n1 ⟨rfl, d1⟩
 have zd1 := d1.size
 have D1 := (D0).trans (d1.mono (by have := (D0).size; omega))
 have rD1 := (row_below d1 kD0).trans rD0
 have kD1 : C < n1.heap.size := by omega
 have E1 := (E0).trans (d1.mono (by have := (E0).size; omega))
 obtain ⟨m1, hm1⟩ : ∃ x, n1.alloc (.cells #[Value.int .i64 0, .int .i64 0, .int .i64 0, .int .i64 0, .int .i64 0] 76) = x := ⟨_, rfl⟩
 have dm : Below n1.heap.size n1 m1 := by rw [← hm1]; exact ba_
 have rXm : row m1 n1.heap.size = #[Value.int .i64 0, .int .i64 0, .int .i64 0, .int .i64 0, .int .i64 0] := by rw [← hm1]; exact row_alloc_at _ _ _ rfl
 have kXm : n1.heap.size < m1.heap.size := by rw [← hm1, alloc_sizeW]; omega
 have hsm := setRow_row_eq rXm (by simp)
 have DM := D1.trans (dm.mono (by have := D1.size; omega))
 have rDM := (row_below dm kD1).trans rD1
 have kDM : C < m1.heap.size := by omega
 have EM := (E1).trans (dm.mono (by have := (E1).size; omega))
 go_wp2_with fail
 (with_reducible refine (nInject_nil _ _ _).mono ?_)
 rintro e n2 ⟨rfl, d2⟩
 have zd2 := d2.size
 have D2 := (DM).trans (d2.mono (by have := (DM).size; omega))
 have rD2 := (row_below d2 kDM).trans rDM
 have kD2 : C < n2.heap.size := by omega
 have E2 := (EM).trans (d2.mono (by have := (EM).size; omega))
 have rX2 := (row_below d2 kXm).trans rXm
 have kX2 : n1.heap.size < n2.heap.size := by omega
 go_wp2_with fail
 (with_reducible refine (nRun_nil _).mono ?_)
 rintro e n3 ⟨rfl, d3⟩
 have zd3 := d3.size
 have D3 := (D2).trans (d3.mono (by have := (D2).size; omega))
 have rD3 := (row_below d3 kD2).trans rD2
 have kD3 : C < n3.heap.size := by omega
 have E3 := (E2).trans (d3.mono (by have := (E2).size; omega))
 have rX3 := (row_below d3 kX2).trans rX2
 have kX3 : n1.heap.size < n3.heap.size := by omega
 go_wp2_with fail
 (with_reducible refine (nTick_nil _).mono ?_)
 rintro e n4 ⟨rfl, d4⟩
 have zd4 := d4.size
 have D4 := (D3).trans (d4.mono (by have := (D3).size; omega))
 have rD4 := (row_below d4 kD3).trans rD3
 have kD4 : C < n4.heap.size := by omega
 have E4 := (E3).trans (d4.mono (by have := (E3).size; omega))
 have rX4 := (row_below d4 kX3).trans rX3
 have kX4 : n1.heap.size < n4.heap.size := by omega
 go_wp2_with fail
 (with_reducible refine (nState_nil _ _).mono ?_)
 rintro e n5 ⟨rfl, e5⟩
 subst e5
 go_wp2_with fail
 (with_reducible refine (nUp_nil _ _).mono ?_)
 rintro e n6 ⟨rfl, e6⟩
 subst e6
 have hQ6 := HQ.out.below E4
 have HQ6 := h_ hQ6
 have HD := h_ D4
 have HE := h_ E4
 clear hQ6 D0 D1 D2 D3 DM E0 E1 E2 E3 EM B1 B2 BY d0 d1 d2 d3 d4 dm rD0 rD1 rD2 rD3 rDM rX2 rX3 rXm hsm hm1 rC rT rCb c1 c2 E4
 have z6 := HD.out.size
 by_cases hp0 : port < 0 ∨ (ps.length : Int) ≤ port
 ·
  have hno : port < 0 ∨ (es.length : Int) ≤ port := by have := HEL.out; omega
  have HTK := h_ (nTake_no (some ⟨N, 0, none⟩) port s n6 false fun W hW => (HQ6.out.below hW).hasNo port hno)
  have HIN := h_ (fun (W : World) (hW : Below n6.heap.size n6 W) => nInject_no (some ⟨N, 0, none⟩) port s W false false (.inl rfl) ((HQ6.out.below hW).hasNo port hno))
  have HUP := h_ (fun (W : World) (hW : Below n6.heap.size n6 W) => (HQ6.out.below hW).upNo port hno)
  have HST := h_ (fun (W : World) (hW : Below n6.heap.size n6 W) => (HQ6.out.below hW).stateNo port hno)
  clear hno
  have hcs : (decide (0 ≤ port) = false) ∨ (decide (0 ≤ port) = true ∧ decide (port < (ps.length : Int)) = false) := by
   by_cases h0 : 0 ≤ port
   ·
    exact .inr ⟨decide_eq_true h0, decide_eq_false (by omega)⟩
   ·
    exact .inl (decide_eq_false h0)
  clear hp0
  rcases hcs with q1 | ⟨q1, q2⟩
  all_goals
   go_wp2_with fail
   (with_reducible refine HTK.out.mono ?_)
   rintro e m2 ⟨rfl, f2⟩
   have rC2 := (row_below f2 kD4).trans rD4
   go_wp2_with fail
   (with_reducible refine (HIN.out _ f2).mono ?_)
   rintro e m3 ⟨rfl, f3⟩
   have F3 := f2.trans (f3.mono f2.size)
   go_wp2_with fail
   (with_reducible refine (HUP.out _ F3).mono ?_)
   rintro e m4 ⟨rfl, f4⟩
   have F4 := F3.trans (f4.mono F3.size)
   go_wp2_with fail
   (with_reducible refine (HST.out _ F4).mono ?_)
   rintro e m5 ⟨rfl, f5⟩
   have F5 := F4.trans (f5.mono F4.size)
   go_wp2_with fail
   go_ret
   exact ⟨rfl, HD.out.trans (F5.mono z6)⟩
 ·
  obtain ⟨q, rfl⟩ := Int.eq_ofNat_of_zero_le (show 0 ≤ port by omega)
  have hq : q < ps.length := by omega
  have hqI : (q : Int) < (ps.length : Int) := by omega
  have q1 : decide (0 ≤ (q : Int)) = true := decide_eq_true (by omega)
  have q2 : decide ((q : Int) < (ps.length : Int)) = true := decide_eq_true hqI
  obtain ⟨pb, po, ta, tc, rfl, hpb, hrd⟩ := h.get hq
  have g4 : n6.cell? ⟨pb, po + q * 39 + 4, none⟩ = some (.bool ps[q].link) := (hrd n6 (BelowS.of HD.out)).1 4 _ rfl
  obtain ⟨o, ho⟩ : ∃ o, po + q * 39 = o := ⟨_, rfl⟩
  rw [ho] at g4
  obtain ⟨lk, hlk⟩ : ∃ b, ps[q].link = b := ⟨_, rfl⟩
  rw [hlk] at g4
  have HLK := h_ hlk
  obtain ⟨eq0, hes0, hes1⟩ := HES.out q ps[q] (List.getElem?_eq_getElem hq)
  have hqe : q < es.length := by have := HEL.out; omega
  have hesq : es[q] = eq0 := by rw [List.getElem?_eq_getElem hqe] at hes0; exact Option.some.inj hes0
  rw [hlk] at hes1
  clear hrd hp0 hlk hes0
  cases lk with
  | false =>
   obtain rfl : eq0 = none := by cases eq0 with
    | none => rfl
    | some _ => cases hes1
   have hHas := fun (W : World) (hW : Below n6.heap.size n6 W) => (HQ6.out.below hW).has q hqe
   have hUp := fun (W : World) (hW : Quiet (Q :: A.muts) W N ⟨id, ma, he, de, ageing, pa', ps.length, cap', mac, A.B, spx, eb, ec, Q, es, D⟩) => hW.up q hqe
   have hSt := fun (W : World) (hW : Quiet (Q :: A.muts) W N ⟨id, ma, he, de, ageing, pa', ps.length, cap', mac, A.B, spx, eb, ec, Q, es, D⟩) => hW.state q hqe
   dsimp only at hHas hUp hSt
   rw [hesq] at hHas hUp hSt
   have HTK := h_ (nTake_no (some ⟨N, 0, none⟩) (q : Int) s n6 true hHas)
   have rQ6 : row n6 Q = #[.int .i64 room, .slice none 0 0, .slice none 0 0, .int .i64 0] := (row_below HE.out HT.out.ltQ).trans HT.out.rQ
   have zQ6 : Q < n6.heap.size := Nat.lt_of_lt_of_le HT.out.ltQ HE.out.size
   have HIN := h_ (fun (W : World) (hW : Below n6.heap.size n6 W) => nInject_ok (HQ6.out.below hW).nd room hr1 ((row_below hW zQ6).trans rQ6) (q : Int) s (hHas W hW))
   have HUP := h_ hUp
   have HST := h_ hSt
   clear hHas hUp hSt rQ6 hes1 hesq
   go_wp2_with fail
   (with_reducible refine HTK.out.mono ?_)
   rintro e m2 ⟨rfl, f2⟩
   have rC2 := (row_below f2 kD4).trans rD4
   go_wp2_with fail
   (with_reducible refine (HIN.out _ f2).mono ?_)
   rintro e m3 ⟨gg, cc, rfl, _, _, _, _, f3⟩
   have hQ3 := (HQ6.out.below f2).kept (BelowS.one f3 (List.mem_cons_self))
   have F3 : Below w.heap.size w m3 := HD.out.trans ((f2.mono z6).trans ((f3.mono (by have := f2.size; omega)).below hgQ))
   have HQ3 := h_ hQ3
   clear hQ3
   go_wp2_with fail
   (with_reducible refine (HUP.out _ HQ3.out).mono ?_)
   rintro e m4 ⟨rfl, f4⟩
   have F4 := F3.trans (f4.mono F3.size)
   have HQ4 := h_ (HQ3.out.below f4)
   simp only [Option.isSome_none, Bool.not_false]
   go_wp2_with fail
   (with_reducible refine (HST.out _ HQ4.out).mono ?_)
   rintro e m5 ⟨rfl, f5⟩
   have F5 := F4.trans (f5.mono F4.size)
   simp only [Option.isSome_none, Bool.false_eq_true, if_false]
   go_wp2_with fail
   go_ret
   exact ⟨rfl, F5⟩
  | true =>
   obtain ⟨x, L, M, pl, hx0, hx1, hx2, hx3⟩ := HT.out.linkAt hq HLK.out
   obtain rfl : eq0 = some x := by rw [List.getElem?_eq_getElem hqe, hesq] at hx0; exact Option.some.inj hx0
   have hHas := fun (W : World) (hW : Quiet (Q :: A.muts) W N ⟨id, ma, he, de, ageing, pa', ps.length, cap', mac, A.B, spx, eb, ec, Q, es, D⟩) => hW.has q hqe
   have hUp := fun (W : World) (hW : Quiet (Q :: A.muts) W N ⟨id, ma, he, de, ageing, pa', ps.length, cap', mac, A.B, spx, eb, ec, Q, es, D⟩) => hW.up q hqe
   have hSt := fun (W : World) (hW : Quiet (Q :: A.muts) W N ⟨id, ma, he, de, ageing, pa', ps.length, cap', mac, A.B, spx, eb, ec, Q, es, D⟩) => hW.state q hqe
   dsimp only at hHas hUp hSt
   rw [hesq] at hHas hUp hSt
   have hx1' := (row_below HE.out (lt_of_row (i := 0) (by rw [hx1]; simp [endV]))).trans hx1
   have hx2' := (row_below HE.out (lt_of_row (i := 0) (by rw [hx2]; simp [newT, LinkT.cells]))).trans hx2
   have HTK := h_ (nTake_link HQ6.out hqe hesq ps[q].psk.toList ps[q].greets r k p d (by simp) hx1' hx2' s (by omega))
   have HIN := h_ (fun (W : World) (hW : Quiet (Q :: A.muts) W N ⟨id, ma, he, de, ageing, pa', ps.length, cap', mac, A.B, spx, eb, ec, Q, es, D⟩) => nInject_no (some ⟨N, 0, none⟩) (q : Int) s W true true (.inr rfl) (hHas W hW))
   have HUP := h_ hUp
   have HST := h_ hSt
   have hgL : w.heap.size ≤ L := by have := HYY.out; omega
   clear hHas hUp hSt hes1 hesq hx1 hx2 hx1' hx2' hx0
   go_wp2_with fail
   (with_reducible refine HTK.out.mono ?_)
   rintro e m2 ⟨⟨v, er, rfl⟩, hQ2, f2⟩
   have F2 : Below w.heap.size w m2 := HD.out.trans ((f2.mono z6).below hgL)
   have HQ2 := h_ hQ2
   clear hQ2 f2
   go_wp2_with fail
   (with_reducible refine (HIN.out _ HQ2.out).mono ?_)
   rintro e m3 ⟨rfl, f3⟩
   have F3 := F2.trans (f3.mono F2.size)
   have HQ3 := h_ (HQ2.out.below f3)
   go_wp2_with fail
   (with_reducible refine (HUP.out _ HQ3.out).mono ?_)
   rintro e m4 ⟨rfl, f4⟩
   have F4 := F3.trans (f4.mono F3.size)
   have HQ4 := h_ (HQ3.out.below f4)
   simp only [Option.isSome_some, Bool.not_true]
   go_wp2_with fail
   (with_reducible refine (HST.out _ HQ4.out).mono ?_)
   rintro e m5 ⟨rfl, f5⟩
   have F5 := F4.trans (f5.mono F4.size)
   simp only [Option.isSome_some, if_true]
   go_wp2_with fail
   go_ret
   exact ⟨rfl, F5⟩
end
end
end Go.Proofs.YtcebllbikmgjpaaGreat
