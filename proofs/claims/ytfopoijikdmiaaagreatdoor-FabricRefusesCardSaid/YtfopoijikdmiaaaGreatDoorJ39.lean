/- Texts of this proof, merged: NodN, NodH, NodQ, NodS, NodO, NodI, NodR, NodA. -/
import Derived.Test.YtfopoijikdmiaaaGreatDoorJ38
import Derived.Test.YtfopoijikdmiaaaGreatDoorJ27
import Derived.Test.YtfopoijikdmiaaaGreatDoorJ37
import Derived.Test.YtfopoijikdmiaaaGreatDoorJ28
import Derived.Test.YtfopoijikdmiaaaGreatDoorJ24
import Derived.Test.YtfopoijikdmiaaaGreatDoorShelfJ
import Derived.Test.YtfopoijikdmiaaaGreatDoorJ22
import Derived.Test.YtfopoijikdmiaaaGreatDoorJ23
set_option linter.unusedSimpArgs false
set_option linter.unusedVariables false
set_option maxHeartbeats 8000000
set_option maxRecDepth 20000
namespace Go.Proofs.YtfopoijikdmiaaaGreatDoor
section
open Go.RowKit Go.Shelf
def newOkN (room r k p d ma he de ageing : Int) (ps : List PortX) : Bool := decide (1 ≤ room ∧ room ≤ 65536) && decide (okTimes r k p d) && rightC ma he de ageing ps
def tapF (ps : List PortX) (i : Nat) : Int := match ps[i]? with
 | some x => if x.link then 0 else 3
 | none => 0
structure NodeT (w0 w : World) (N Q : Nat) (id : Vector UInt8 8) (ma he de ageing : Int) (pa : Option Addr) (cap : Nat) (ps : List PortX) (mac : Vector UInt8 6) (r k p d room : Int) (A : BrA) (sp ea : Option Addr) (ec : Nat) (es : List (Option Nat)) (j : Nat) : Prop where
 rN : row w N = (nodeC id ma he de ageing pa ps.length cap mac (some ⟨A.B, 0, none⟩) sp ea ps.length ec (some ⟨Q, 0, none⟩) 0 0).toArray
 rQ : row w Q = #[.int .i64 room, .slice none 0 0, .slice none 0 0, .int .i64 0]
 gN : w0.heap.size ≤ N
 gQ : w0.heap.size ≤ Q
 ne : N ≠ Q
 ex : N ∈ A.ex ∧ Q ∈ A.ex
 lo : ∀ b ∈ [A.B, A.SB, A.LT, A.LM, A.HT, A.HM], N < b ∧ Q < b
 br : BrT w A (sJ ageing (ps.map (·.p)) (tapF ps) j)
 ok : newOkB ageing (ps.map (·.p)) = true
 own : ∃ B wC, N < B ∧ Q < B ∧ OwnL wC B 122 1 (.slice ea ps.length ec) (es.map fun e => [optP e]) ∧ EndsT wC B ps r k p d es ∧ wC.heap.size ≤ w.heap.size ∧ (∀ X, B ≤ X → X < wC.heap.size → w.heap[X]? = wC.heap[X]?) ∧ ∀ b ∈ A.muts, wC.heap.size ≤ b
 span : sp = none ∨ ∃ D S s, sp = some ⟨S, 0, none⟩ ∧ SpT w D S s ∧ s.ps.length ≤ 32 ∧ N < D ∧ Q < D ∧ ∀ b ∈ A.muts, b < D
 low : Below w0.heap.size w0 w
 exl : ∀ x, x < w0.heap.size → x ∈ A.ex
theorem BrT.otherB {w w' : World} {A : BrA} {s : BrS} (h : BrT w A s) {x : Nat} (hx : x ∈ A.ex) (hn : ∀ b ∈ [A.B, A.SB, A.LT, A.LM, A.HT, A.HM], b ≠ x) (hb : BelowBut w.heap.size x w w') : BrT w' A s := by
 have hbs : BelowS w.heap.size A.offs w w' := BelowS.one hb (List.mem_append_right _ hx)
 obtain ⟨l1, l2, l3, l4, l5, l6⟩ := h.lts
 have e : ∀ b ∈ [A.B, A.SB, A.LT, A.LM, A.HT, A.HM], w'.heap[b]? = w.heap[b]? := fun b hb2 => hb.block b (by
  simp only [List.mem_cons, List.not_mem_nil, or_false] at hb2
  rcases hb2 with rfl | rfl | rfl | rfl | rfl | rfl <;> assumption) (hn b hb2)
 exact ⟨(row_of_block (e A.B (by simp))).trans h.rB, (row_of_block (e A.SB (by simp))).trans h.rS,
  ⟨(row_of_block (e A.LT (by simp))).trans h.ler.row, (mapOk_of_block (e A.LM (by simp))).2 h.ler.ok, (mapL_of_block (e A.LM (by simp))).trans h.ler.map⟩,
  ⟨(row_of_block (e A.HT (by simp))).trans h.hush.row, (mapOk_of_block (e A.HM (by simp))).2 h.hush.ok, (mapL_of_block (e A.HM (by simp))).trans h.hush.map⟩, h.lims.kept hbs, h.ports.kept hbs, h.dist, h.lenS, h.pos⟩
theorem mut_place {A : BrA} {x : Nat} (h : x ∈ A.muts) : x ∈ [A.B, A.SB, A.LT, A.LM, A.HT, A.HM] := by
 simp only [BrA.muts, List.mem_cons, List.not_mem_nil, or_false] at h ⊢
 omega
section
variable {w0 w : World} {N Q : Nat} {id : Vector UInt8 8} {ma he de ageing : Int} {pa : Option Addr} {cap : Nat} {ps : List PortX} {mac : Vector UInt8 6} {r k p d room : Int} {A : BrA} {sp ea : Option Addr} {ec : Nat} {es : List (Option Nat)} {j : Nat}
theorem NodeT.ltN (h : NodeT w0 w N Q id ma he de ageing pa cap ps mac r k p d room A sp ea ec es j) : N < w.heap.size := lt_of_row (i := 0) (by rw [h.rN]; simp [nodeC])
theorem NodeT.ltQ (h : NodeT w0 w N Q id ma he de ageing pa cap ps mac r k p d room A sp ea ec es j) : Q < w.heap.size := lt_of_row (i := 0) (by rw [h.rQ]; simp)
theorem NodeT.next {j' : Nat} {w' : World} (h : NodeT w0 w N Q id ma he de ageing pa cap ps mac r k p d room A sp ea ec es j) (hb : BelowS w.heap.size A.muts w w') (hbr : BrT w' A (sJ ageing (ps.map (·.p)) (tapF ps) j')) : NodeT w0 w' N Q id ma he de ageing pa cap ps mac r k p d room A sp ea ec es j' := by
 have nN : N ∉ A.muts := fun hm => by have := (h.lo N (mut_place hm)).1; omega
 have nQ : Q ∉ A.muts := fun hm => by have := (h.lo Q (mut_place hm)).2; omega
 refine ⟨(hb.row h.ltN nN).trans h.rN, (hb.row h.ltQ nQ).trans h.rQ, h.gN, h.gQ, h.ne, h.ex, h.lo, hbr, h.ok, ?_, ?_, h.low.trans ((hb.below (B' := w0.heap.size) h.low.size fun x hx => ?_)), h.exl⟩
 ·
  obtain ⟨B, wC, h1, h2, h3, h4, h5, h6, h7⟩ := h.own
  exact ⟨B, wC, h1, h2, h3, h4, Nat.le_trans h5 hb.size, fun X hX hl => (hb.block X (by omega) fun hm => by have := h7 X hm; omega).trans (h6 X hX hl), h7⟩
 ·
  rcases h.span with h1 | ⟨D, S, s, h1, h2, h3, h4, h5, h6⟩
  ·
   exact .inl h1
  ·
   exact .inr ⟨D, S, s, h1, h2.kept fun X hX hl => hb.block X hl fun hm => by have := h6 X hm; omega, h3, h4, h5, h6⟩
 ·
  have := (h.lo x (mut_place hx)).1
  have := h.gN
  omega
theorem sJ_skip (ageing : Int) (ps : List PortD) (f : Nat → Int) (j : Nat) (h : f j = 0) : sJ ageing ps f j = sJ ageing ps f (j + 1) := by
 have e : (List.range ps.length).map (fun i => if i < j then f i else 0) = (List.range ps.length).map (fun i => if i < j + 1 then f i else 0) := by
  apply List.map_congr_left
  intro i _
  by_cases h1 : i < j
  ·
   rw [if_pos h1, if_pos (by omega)]
  ·
   by_cases h2 : i = j
   ·
    subst h2
    rw [if_neg h1, if_pos (by omega), h]
   ·
    rw [if_neg h1, if_neg (by omega)]
 unfold sJ
 rw [e]
theorem NodeT.skip (h : NodeT w0 w N Q id ma he de ageing pa cap ps mac r k p d room A sp ea ec es j) (h0 : tapF ps j = 0) : NodeT w0 w N Q id ma he de ageing pa cap ps mac r k p d room A sp ea ec es (j + 1) :=
 ⟨h.rN, h.rQ, h.gN, h.gQ, h.ne, h.ex, h.lo, by have := h.br; rwa [sJ_skip _ _ _ _ h0] at this, h.ok, h.own, h.span, h.low, h.exl⟩
theorem NodeT.state (h : NodeT w0 w N Q id ma he de ageing pa cap ps mac r k p d room A sp ea ec es j) (hj : j < ps.length) (hl : ps[j].link = false) : Calls Tryz.prog 78 #[.pointer (some ⟨A.B, 0, none⟩), .int .i64 (j : Int), .int .i64 3] w fun e w' => e = .returned (.int .i64 0) ∧ NodeT w0 w' N Q id ma he de ageing pa cap ps mac r k p d room A sp ea ec es (j + 1) := by
 have e3 : tapF ps j = 3 := by unfold tapF; rw [List.getElem?_eq_getElem hj]; simp [hl]
 have hS := rStateJ_any (f := tapF ps) w h.ok (j := j) (by rw [List.length_map]; exact hj) (by rw [e3]; decide) (by rw [e3]; decide) h.br
 rw [e3] at hS
 exact hS.mono fun e w' h1 => ⟨h1.1, h.next h1.2.1 h1.2.2⟩
theorem NodeT.get (h : NodeT w0 w N Q id ma he de ageing pa cap ps mac r k p d room A sp ea ec es j) {q : Nat} (hq : q < ps.length) : ∃ b off, ea = some ⟨b, off, none⟩ ∧ b < w.heap.size ∧ ((ps[q].link = false ∧ w.cell? ⟨b, off + q, none⟩ = some (.pointer none)) ∨ (ps[q].link = true ∧ ∃ x, w.cell? ⟨b, off + q, none⟩ = some (.pointer (some ⟨x, 0, none⟩)) ∧ ∃ L M pl, w.heap[x]? = some (.cells (endV L M pl) 126 (0, 0)) ∧ row w L = (newT ps[q].psk.toList ps[q].greets r k p d).cells.toArray ∧ L ≠ N ∧ L ≠ Q)) := by
 obtain ⟨B, wC, h1, h2, h3, h4, h5, h6, h7⟩ := h.own
 have h3' := h3.keep (w' := w) fun X hX => h6 X (h3.blk hX).1 (h3.blk hX).2.1
 obtain ⟨a, cap', e, he⟩ := h3'.elems
 have hl : es.length = ps.length := h4.1
 simp only [List.length_map, Value.slice.injEq, true_and] at e
 obtain ⟨rfl, e1, rfl⟩ : ea = a ∧ ps.length = es.length ∧ ec = cap' := by first | exact e | exact ⟨e.1, hl.symm, e.2⟩ | exact ⟨e.1, e.2.1, e.2.2⟩
 have hqe : q < es.length := by omega
 obtain ⟨b, off, e2, hb, hr⟩ := he.2 q [optP es[q]] (by rw [List.getElem?_map, List.getElem?_eq_getElem hqe]; rfl)
 have hc := hr w rfl 0 _ rfl
 rw [Nat.mul_one, Nat.add_zero] at hc
 refine ⟨b, off, e2, hb, ?_⟩
 rcases h4.2 q ps[q] (List.getElem?_eq_getElem hq) with ⟨g1, g2⟩ | ⟨g1, x, g2, g3, L, M, pl, g4, g5, g6⟩
 ·
  rw [List.getElem?_eq_getElem hqe, Option.some.injEq] at g2
  rw [g2] at hc
  exact .inl ⟨g1, hc⟩
 ·
  rw [List.getElem?_eq_getElem hqe, Option.some.injEq] at g2
  rw [g2] at hc
  refine .inr ⟨g1, x, hc, L, M, pl, (h6 x g3 (Array.getElem?_eq_some_iff.1 g4).1).trans g4, (row_of_block (h6 L g5 (lt_of_row (i := 0) (by rw [g6]; simp [newT, LinkT.cells])))).trans g6, by omega, by omega⟩
end
theorem PXOff.moreN {w : World} {pa : Option Addr} {ps : List PortX} (h : PXOff [] w pa ps) {x : Nat} (hx : w.heap.size ≤ x) : PXOff [x] w pa ps := by
 refine ⟨h.1, fun i p hp => ?_⟩
 obtain ⟨b, off, ta, cap, e, hl, hn, hr, ht⟩ := h.2 i p hp
 exact ⟨b, off, ta, cap, e, hl, fun hm => by have := List.mem_singleton.1 hm; omega, hr, ht.more fun y hy => .inr (by have := List.mem_singleton.1 hy; omega)⟩
theorem nodeNew_any (id : Vector UInt8 8) (ma he de ageing : Int) (pa : Option Addr) (cap : Nat) (ps : List PortX) (r k p d room : Int) (w : World) (h : PXOff [] w pa ps) (hn : ps.length ≤ 1000) :
  Calls Tryz.prog 52 #[.agg (confV id ma he de ageing pa ps.length cap).toArray, .agg #[.int .i64 r, .int .i64 k, .int .i64 p, .int .i64 d], .int .i64 room] w fun e w' =>
   (newOkN room r k p d ma he de ageing ps = false ∧ e = .returned (.tuple #[.pointer none, .int .i64 1]) ∧ Below w.heap.size w w') ∨
   (newOkN room r k p d ma he de ageing ps = true ∧ ∃ N, e = .returned (.tuple #[.pointer (some ⟨N, 0, none⟩), .int .i64 0]) ∧ ∃ Q mac A sp ea ec es, NodeT w w' N Q id ma he de ageing pa cap ps mac r k p d room A sp ea ec es ps.length) := by
 have HLO := h_ (fun ht w => linkNew_ok (List.replicate 32 0) true r k p d w (by simp) ht)
 have HLB := h_ (fun ht w => linkNew_bad (List.replicate 32 0) true r k p d w (by simp) ht)
 rw [show (u8s (List.replicate 32 0)).toArray = (zeros 32 (.int .u8 0)).toArray from by kernel_rfl] at HLO HLB
 unfold confV
 go_enter Tryz.func52, Tryz.ntmps52
 obtain ⟨w2, hw2⟩ : ∃ x, (w.alloc (.cells (u8v id ++ [Value.int .i64 ma, Value.int .i64 he, Value.int .i64 de, Value.int .i64 ageing, Value.slice pa ps.length cap]).toArray 106)).alloc (.cells #[Value.int .i64 r, .int .i64 k, .int .i64 p, .int .i64 d] 46) = x := ⟨_, rfl⟩
 have b2 : Below w.heap.size w w2 := by rw [← hw2]; exact Below.alloc (ba_) (by simp) _
 have z2 : w2.heap.size = w.heap.size + 2 := by rw [← hw2, alloc_sizeW, alloc_sizeW]
 have r1 : row w2 w.heap.size = (u8v id ++ [Value.int .i64 ma, Value.int .i64 he, Value.int .i64 de, Value.int .i64 ageing, Value.slice pa ps.length cap]).toArray := by rw [← hw2]; simp [go_sem]
 have r2 : row w2 (w.heap.size + 1) = #[Value.int .i64 r, .int .i64 k, .int .i64 p, .int .i64 d] := by rw [← hw2]; simp [go_sem]
 have k1 : w.heap.size < w2.heap.size := by omega
 have k2 : w.heap.size + 1 < w2.heap.size := by omega
 go_wp2_with fail
 (try clear hw2)
 clear z2
 by_cases hq : 1 ≤ room ∧ room ≤ 65536
 ·
  by_cases ht : okTimes r k p d
  ·
   cases hr : rightC ma he de ageing ps with
   | false =>
    go_wp2_with fail
    (with_reducible refine (qNew_ok room hq _).mono ?_)
    rintro e w3 ⟨Q, rfl, gQ, zQ, rQ, b3⟩
    have z3 := b3.size
    have r13 := (row_below b3 k1).trans r1
    have r23 := (row_below b3 k2).trans r2
    go_wp2_with fail
    (with_reducible refine (HLO.out ht _).mono ?_)
    rintro e w4 ⟨L, rfl, gL, zL, rL, b4⟩
    clear rL
    have z4 := b4.size
    have r14 := (row_below b4 (show w.heap.size < w3.heap.size by omega)).trans r13
    have r24 := (row_below b4 (show w.heap.size + 1 < w3.heap.size by omega)).trans r23
    have B4 : Below w.heap.size w w4 := b2.trans ((b3.mono (by omega)).trans (b4.mono (by omega)))
    have HC := h_ (confRight_any id ma he de ageing pa cap ps w4 (h.below (B4.mono (Nat.le_refl _))) (by omega))
    unfold confV at HC
    go_wp2_with fail
    (with_reducible refine HC.out.mono ?_)
    rintro e w5 ⟨rfl, b5⟩
    have z5 := b5.size
    have r15 := (row_below b5 (show w.heap.size < w4.heap.size by omega)).trans r14
    have r25 := (row_below b5 (show w.heap.size + 1 < w4.heap.size by omega)).trans r24
    have B5 : Below w.heap.size w w5 := B4.trans (b5.mono (by omega))
    rw [hr]
    go_wp2_with fail
    go_ret2
    exact .inl ⟨by unfold newOkN; rw [decide_eq_true hq, decide_eq_true ht, hr]; simp, rfl, B5⟩
   | true =>
    go_wp2_with fail
    (with_reducible refine (qNew_ok room hq _).mono ?_)
    rintro e w3 ⟨Q, rfl, gQ, zQ, rQ, b3⟩
    have z3 := b3.size
    have r13 := (row_below b3 k1).trans r1
    have r23 := (row_below b3 k2).trans r2
    go_wp2_with fail
    (with_reducible refine (HLO.out ht _).mono ?_)
    rintro e w4 ⟨L, rfl, gL, zL, rL, b4⟩
    clear rL
    have z4 := b4.size
    have r14 := (row_below b4 (show w.heap.size < w3.heap.size by omega)).trans r13
    have r24 := (row_below b4 (show w.heap.size + 1 < w3.heap.size by omega)).trans r23
    have B4 : Below w.heap.size w w4 := b2.trans ((b3.mono (by omega)).trans (b4.mono (by omega)))
    have HC := h_ (confRight_any id ma he de ageing pa cap ps w4 (h.below (B4.mono (Nat.le_refl _))) (by omega))
    unfold confV at HC
    go_wp2_with fail
    (with_reducible refine HC.out.mono ?_)
    rintro e w5 ⟨rfl, b5⟩
    have z5 := b5.size
    have r15 := (row_below b5 (show w.heap.size < w4.heap.size by omega)).trans r14
    have r25 := (row_below b5 (show w.heap.size + 1 < w4.heap.size by omega)).trans r24
    have B5 : Below w.heap.size w w5 := B4.trans (b5.mono (by omega))
    rw [hr]
    have hr2 := hr
    unfold rightC at hr2
    simp only [Bool.and_eq_true] at hr2
    obtain ⟨⟨hrp, hrn⟩, hrt⟩ := hr2
    have hn32 : ps.length ≤ 32 := by have := (newG ageing _ hrn).1.n32; simpa [newS] using this
    obtain ⟨x3, e3⟩ : ∃ x : Int, (u8v id)[3]'(by simp) = .int .u8 x ∧ Value.int .u8 x = .int .u8 (id[3].toNat) := ⟨(id[3].toNat : Int), by simp [u8v, u8s], rfl⟩
    obtain ⟨x4, e4⟩ : ∃ x : Int, (u8v id)[4]'(by simp) = .int .u8 x ∧ Value.int .u8 x = .int .u8 (id[4].toNat) := ⟨(id[4].toNat : Int), by simp [u8v, u8s], rfl⟩
    obtain ⟨x5, e5⟩ : ∃ x : Int, (u8v id)[5]'(by simp) = .int .u8 x ∧ Value.int .u8 x = .int .u8 (id[5].toNat) := ⟨(id[5].toNat : Int), by simp [u8v, u8s], rfl⟩
    obtain ⟨x6, e6⟩ : ∃ x : Int, (u8v id)[6]'(by simp) = .int .u8 x ∧ Value.int .u8 x = .int .u8 (id[6].toNat) := ⟨(id[6].toNat : Int), by simp [u8v, u8s], rfl⟩
    obtain ⟨x7, e7⟩ : ∃ x : Int, (u8v id)[7]'(by simp) = .int .u8 x ∧ Value.int .u8 x = .int .u8 (id[7].toNat) := ⟨(id[7].toNat : Int), by simp [u8v, u8s], rfl⟩
    have hmac : [Value.int .u8 2, .int .u8 x3, .int .u8 x4, .int .u8 x5, .int .u8 x6, .int .u8 x7] = u8v (#v[2, id[3], id[4], id[5], id[6], id[7]] : Vector UInt8 6) := by
     rw [e3.2, e4.2, e5.2, e6.2, e7.2]
     rfl
    obtain ⟨mac, hmc⟩ : ∃ mac : Vector UInt8 6, (#v[2, id[3], id[4], id[5], id[6], id[7]] : Vector UInt8 6) = mac := ⟨_, rfl⟩
    rw [hmc] at hmac
    have hb96 : (buildS 114 [(0, Value.int .u8 2), (1, (u8v id)[3]'(by simp)), (2, (u8v id)[4]'(by simp)), (3, (u8v id)[5]'(by simp)), (4, (u8v id)[6]'(by simp)), (5, (u8v id)[7]'(by simp))]).run Tryz.prog w5 = .ok (.agg (u8v mac).toArray) w5 := by
     rw [e3.1, e4.1, e5.1, e6.1, e7.1, ← hmac]
     exact (run_buildS_row (by rfl)).trans (by rfl)
    clear hmc hmac e3 e4 e5 e6 e7
    obtain ⟨w6, hw6⟩ : ∃ x, w5.alloc (.cells (u8v id ++ (Value.int .i64 ma :: Value.int .i64 he :: Value.int .i64 de :: Value.int .i64 ageing :: Value.slice pa ps.length cap :: (u8v mac ++ (zeros 2 (Value.pointer none) ++ [Value.slice none 0 0, Value.pointer (some ⟨Q, 0, none⟩), Value.int .u32 0, Value.int .i64 0])))).toArray 121) = x := ⟨_, rfl⟩
    have b6 : Below w5.heap.size w5 w6 := by rw [← hw6]; exact ba_
    have z6 : w6.heap.size = w5.heap.size + 1 := by rw [← hw6, alloc_sizeW]
    obtain ⟨N, hN⟩ : ∃ N, w5.heap.size = N := ⟨_, rfl⟩
    have rN6 : row w6 N = (u8v id ++ (Value.int .i64 ma :: Value.int .i64 he :: Value.int .i64 de :: Value.int .i64 ageing :: Value.slice pa ps.length cap :: (u8v mac ++ (zeros 2 (Value.pointer none) ++ [Value.slice none 0 0, Value.pointer (some ⟨Q, 0, none⟩), Value.int .u32 0, Value.int .i64 0])))).toArray := by rw [← hw6, ← hN]; exact row_alloc_at _ _ _ rfl
    have r16 := (row_below b6 (show w.heap.size < w5.heap.size by omega)).trans r15
    have r26 := (row_below b6 (show w.heap.size + 1 < w5.heap.size by omega)).trans r25
    have rQ6 := (row_below b6 (show Q < w5.heap.size by omega)).trans ((row_below b5 (show Q < w4.heap.size by omega)).trans ((row_below b4 zQ).trans rQ))
    have B6 : Below w.heap.size w w6 := B5.trans (b6.mono (by omega))
    have hPX : PXOff [N] w6 pa ps := (h.moreN (x := N) (by omega)).below B6
    have HP := h_ (parts_any id ma he de ageing pa cap ps mac (some ⟨Q, 0, none⟩) N r k p d w6 (by rw [rN6]; unfold nodeC; rfl) hPX hn32 ht)
    go_wp2_with fail
    (try rw [hN])
    (try rw [hw6])
    (try clear hw6)
    (with_reducible refine HP.out.mono ?_)
    rintro e w7 ⟨ppa, ppc, ca, cc, cs, rfl, rows, ea, ec, es, PI⟩
    have z7 := PI.low.size
    have r17 := (PI.low.row (show w.heap.size < w6.heap.size by omega) (show w.heap.size ≠ N by omega)).trans r16
    have rQ7 := (PI.low.row (show Q < w6.heap.size by omega) (show Q ≠ N by omega)).trans rQ6
    have rN7 := PI.rN
    unfold nodeC at rN7
    have kN7 : N < w7.heap.size := by omega
    have kQ7 : Q < w7.heap.size := by omega
    have hpo : PortsOff [] w7 ppa (ps.map (·.p)) := portsOf PI.own1 (by rw [List.length_map]; exact hn) (fun x hx => by cases hx) (by
     intro q p hq
     rw [List.getElem?_map] at hq
     cases hr : ps[q]? with
     | none => rw [hr] at hq; cases hq
     | some x =>
      rw [hr] at hq
      simp only [Option.map_some, Option.some.injEq] at hq
      subst hq
      obtain ⟨ta, tc, e1, e2⟩ := PI.rows q x (List.getElem?_eq_some_iff.1 hr).1 hr
      exact ⟨ta, tc, e1, (e2.kept (BelowS.one PI.low (by simp))).more fun y hy => by cases hy⟩)
    have hNW := rNewX2_any ageing ppa ppc (ps.map (·.p)) w7 (N :: Q :: List.range w.heap.size) (by
     intro x hx
     simp only [List.mem_cons, List.mem_range] at hx
     rcases hx with rfl | rfl | hx
     ·
      assumption
     ·
      assumption
     ·
      omega) hpo (by rw [List.length_map]; exact hn)
    rw [List.length_map] at hNW
    have HNW := h_ hNW
    have HPI := h_ PI
    have HZ6 := h_ z6
    have HRN := h_ hrn
    have BW7 : Below w.heap.size w w7 := B6.trans ((PI.low.mono (by omega)).below (by omega))
    clear hNW hpo PI z6 hrn r16 r26 rN6 rQ6 hrp hrt
    go_wp2_with fail
    (with_reducible refine HNW.out.mono ?_)
    rintro e w8 (⟨hno, _⟩ | ⟨_, A, rfl, hnb, hex, hlt⟩)
    ·
     rw [HRN.out] at hno; cases hno
    have b8 := hnb.below
    have z8 := b8.size
    have r18 := (row_below b8 (show w.heap.size < w7.heap.size by omega)).trans r17
    have rQ8 := (row_below b8 kQ7).trans rQ7
    have rN8 := (row_below b8 kN7).trans rN7
    obtain ⟨AB, hAB⟩ : ∃ x, A.B = x := ⟨_, rfl⟩
    rw [hAB]
    have HAB := h_ hAB
    have HNB := h_ hnb
    have HEX := h_ hex
    have HLT := h_ hlt
    obtain ⟨w9, hw9⟩ : ∃ x, w8.setRow N (u8v id ++ (Value.int .i64 ma :: Value.int .i64 he :: Value.int .i64 de :: Value.int .i64 ageing :: Value.slice pa ps.length cap :: (u8v mac ++ [Value.pointer (some ⟨AB, 0, none⟩), Value.pointer none, Value.slice ea ps.length ec, Value.pointer (some ⟨Q, 0, none⟩), Value.int .u32 0, Value.int .i64 0]))).toArray = x := ⟨_, rfl⟩
    have rN9 : row w9 N = (u8v id ++ (Value.int .i64 ma :: Value.int .i64 he :: Value.int .i64 de :: Value.int .i64 ageing :: Value.slice pa ps.length cap :: (u8v mac ++ [Value.pointer (some ⟨AB, 0, none⟩), Value.pointer none, Value.slice ea ps.length ec, Value.pointer (some ⟨Q, 0, none⟩), Value.int .u32 0, Value.int .i64 0]))).toArray := by rw [← hw9]; exact row_setRow_same (by rw [rN8]; simp) (by rw [rN8]; simp)
    have kk9 : ∀ X, X ≠ N → w9.heap[X]? = w8.heap[X]? := fun X hX => by rw [← hw9]; exact setRow_block_other _ _ _ hX
    have z9 : w9.heap.size = w8.heap.size := by rw [← hw9, setRow_size]
    have b9 : BelowBut w8.heap.size N w8 w9 := by rw [← hw9]; exact BelowBut.set _ _
    have r19 := (b9.row (show w.heap.size < w8.heap.size by omega) (show w.heap.size ≠ N by omega)).trans r18
    have rQ9 := (b9.row (show Q < w8.heap.size by omega) (show Q ≠ N by omega)).trans rQ8
    have HZ9 := h_ z9
    have HK9 := h_ kk9
    clear hnb hex hlt hAB z9 kk9 rN7 r17 rQ7 b8
    have NT0 : ∀ (W : World) (sp : Option Addr), BelowBut w9.heap.size N w9 W → row W N = (nodeC id ma he de ageing pa ps.length cap mac (some ⟨A.B, 0, none⟩) sp ea ps.length ec (some ⟨Q, 0, none⟩) 0 0).toArray → (sp = none ∨ ∃ S s, sp = some ⟨S, 0, none⟩ ∧ SpT W w9.heap.size S s ∧ s.ps.length ≤ 32) → NodeT w W N Q id ma he de ageing pa cap ps mac r k p d room A sp ea ec es 0 := by
     intro W sp hW hrow hsp
     have hbn := HNB.out
     have zz9 := HZ9.out
     have hexN : N ∈ A.ex ∧ Q ∈ A.ex := by rw [HEX.out]; simp
     have hlo : ∀ b ∈ [A.B, A.SB, A.LT, A.LM, A.HT, A.HM], N < b ∧ Q < b := fun b hb => by have := hbn.lo b hb; omega
     have hbr0 : BrT w9 A (newS ageing (ps.map (·.p))) := by rw [← hw9]; exact hbn.br.other hexN.1 (fun b hb => by have := hlo b hb; omega) _
     have hbr9 : BrT W A (newS ageing (ps.map (·.p))) := hbr0.otherB hexN.1 (fun b hb => by have := hlo b hb; omega) hW
     have hWs := hW.size
     have hB9 : BelowBut w7.heap.size N w7 W := (BelowBut.of hbn.below).trans ((b9.mono z8).trans (hW.mono (by omega)))
     have hmuts : ∀ b ∈ A.muts, w7.heap.size ≤ b := fun b hb => hbn.lo b (mut_place hb)
     have hPE := HPI.out.ends
     rw [List.take_length] at hPE
     refine ⟨hrow, (hW.row (show Q < w9.heap.size by omega) (by omega)).trans rQ9, by omega, by omega, by omega, hexN, hlo, by rw [sJ_zero]; exact hbr9, HRN.out, ⟨w6.heap.size, w7, by have := HZ6.out; omega, by have := HZ6.out; omega, HPI.out.own3, hPE, by omega, fun X hX hl => hB9.block X hl (by have := HZ6.out; omega), hmuts⟩, ?_, BW7.trans ((hB9.mono (by omega)).below (by omega)), fun x hx => by rw [HEX.out]; simp [hx]⟩
     rcases hsp with h1 | ⟨S, s, h1, h2, h3⟩
     ·
      exact .inl h1
     ·
      exact .inr ⟨w9.heap.size, S, s, h1, h2, h3, by omega, by omega, fun b hb => by have := HLT.out b (mut_place hb); omega⟩
    have HNT0 := h_ NT0
    clear NT0 b9
    by_cases hcs : cs = []
    ·
     subst hcs
     have NT := HNT0.out w9 none (BelowBut.of (Below.refl _ _)) (by rw [rN9, HAB.out]; unfold nodeC; rfl) (.inl rfl)
     have HNT := h_ NT
     clear NT HNT0
     go_wp2_with fail
     (try rw [hw9])
     (try clear hw9)
     clear rN9 rQ9 r19
     go_loopw [99] (fun i wr => ∃ j : Nat, j ≤ ps.length ∧ i = .int .i64 j ∧ NodeT w wr N Q id ma he de ageing pa cap ps mac r k p d room A none ea ec es j) (fun i _ => ps.length - (intOf i).toNat)
     case atStart => exact ⟨0, by omega, rfl, HNT.out⟩
     case round =>
      obtain ⟨j, hj, rfl, hT⟩ := hrel
      clear HNT
      have rN := hT.rN
      unfold nodeC at rN
      have HT := h_ hT
      by_cases hlt : j < ps.length
      ·
       have hltI : (j : Int) < (ps.length : Int) := by omega
       obtain ⟨eb, eo, rfl, hebl, hcase⟩ := hT.get hlt
       clear hT
       rcases hcase with ⟨hl, hc⟩ | ⟨hl, x, hc, _⟩
       ·
        have HS := h_ (HT.out.state hlt hl)
        go_wp2_with fail
        (with_reducible refine HS.out.mono ?_)
        rintro e w20 ⟨rfl, hT2⟩
        have HT2 := h_ hT2
        clear hT2 hc HS HT rN
        go_wp2_with fail
        go_roundw
        case rel => exact ⟨j + 1, by omega, by simp, HT2.out⟩
        case measure => simp [intOf]; omega
       ·
        have hT2 := HT.out.skip (by unfold tapF; rw [List.getElem?_eq_getElem hlt]; simp [hl])
        have HT2 := h_ hT2
        clear hT2 HT
        go_wp2_with fail
        go_roundw
        case rel => exact ⟨j + 1, by omega, by simp, HT2.out⟩
        case measure => simp [intOf]; omega
      ·
       obtain rfl : j = ps.length := by omega
       have hltI : ¬ (ps.length : Int) < (ps.length : Int) := by omega
       clear hT
       go_wp2_with fail
       go_ret2
       exact .inr ⟨by unfold newOkN; rw [decide_eq_true hq, decide_eq_true ht, hr]; rfl, N, rfl, Q, mac, A, none, _, ec, es, HT.out⟩
    ·
     have hcl : 0 < cs.length := List.length_pos_iff.2 hcs
     have hclI : (0 : Int) < (cs.length : Int) := by omega
     have hcs9 := (HPI.out.own2.below HNB.out.below).keep (w' := w9) fun X hX => HK9.out X (by have := ((HPI.out.own2.below HNB.out.below).blk hX).1; have := HZ6.out; omega)
     have hIA : IntsAt w9 ca cs := by
      obtain ⟨a, c, e, he⟩ := hcs9.elems
      simp only [List.length_map, Value.slice.injEq, true_and] at e
      obtain ⟨rfl, _⟩ := e
      exact he
     have HIA := h_ hIA
     clear hIA hcs9
     cases hsp : okSp cs ma he de with
     | false =>
      go_wp2_with fail
      (try rw [hw9])
      (try clear hw9)
      (with_reducible refine (spNew_bad id ca cc cs ma he de w9 HIA.out hsp).mono ?_)
      rintro e w10 ⟨rfl, b10⟩
      have z10 := b10.size
      have rN10 := (row_below b10 (show N < w9.heap.size by have := HZ9.out; omega)).trans rN9
      obtain ⟨w11, hw11⟩ : ∃ x, w10.setRow N (u8v id ++ (Value.int .i64 ma :: Value.int .i64 he :: Value.int .i64 de :: Value.int .i64 ageing :: Value.slice pa ps.length cap :: (u8v mac ++ [Value.pointer (some ⟨AB, 0, none⟩), Value.pointer none, Value.slice ea ps.length ec, Value.pointer (some ⟨Q, 0, none⟩), Value.int .u32 0, Value.int .i64 0]))).toArray = x := ⟨_, rfl⟩
      have rN11 : row w11 N = (u8v id ++ (Value.int .i64 ma :: Value.int .i64 he :: Value.int .i64 de :: Value.int .i64 ageing :: Value.slice pa ps.length cap :: (u8v mac ++ [Value.pointer (some ⟨AB, 0, none⟩), Value.pointer none, Value.slice ea ps.length ec, Value.pointer (some ⟨Q, 0, none⟩), Value.int .u32 0, Value.int .i64 0]))).toArray := by rw [← hw11]; exact row_setRow_same (by rw [rN10] <;> simp) (by rw [rN10] <;> simp)
      have b11 : BelowBut w9.heap.size N w9 w11 := by rw [← hw11]; exact (BelowBut.of b10).trans ((BelowBut.set _ _).mono z10)
      have NT := HNT0.out w11 (none) b11 (by rw [rN11, HAB.out]; unfold nodeC; rfl) (.inl rfl)
      have HNT := h_ NT
      clear NT HNT0 b11 b10 rN9 rQ9 r19
      go_wp2_with fail
      (try rw [hw11])
      (try clear hw11)
      clear rN10 rN11
      go_loopw [99] (fun i wr => ∃ j : Nat, j ≤ ps.length ∧ i = .int .i64 j ∧ NodeT w wr N Q id ma he de ageing pa cap ps mac r k p d room A none ea ec es j) (fun i _ => ps.length - (intOf i).toNat)
      case atStart => exact ⟨0, by omega, rfl, HNT.out⟩
      case round =>
       obtain ⟨j, hj, rfl, hT⟩ := hrel
       clear HNT
       have rN := hT.rN
       unfold nodeC at rN
       have HT := h_ hT
       by_cases hlt : j < ps.length
       ·
        have hltI : (j : Int) < (ps.length : Int) := by omega
        obtain ⟨eb, eo, rfl, hebl, hcase⟩ := hT.get hlt
        clear hT
        rcases hcase with ⟨hl, hc⟩ | ⟨hl, x, hc, _⟩
        ·
         have HS := h_ (HT.out.state hlt hl)
         go_wp2_with fail
         (with_reducible refine HS.out.mono ?_)
         rintro e w20 ⟨rfl, hT2⟩
         have HT2 := h_ hT2
         clear hT2 hc HS HT rN
         go_wp2_with fail
         go_roundw
         case rel => exact ⟨j + 1, by omega, by simp, HT2.out⟩
         case measure => simp [intOf]; omega
        ·
         have hT2 := HT.out.skip (by unfold tapF; rw [List.getElem?_eq_getElem hlt]; simp [hl])
         have HT2 := h_ hT2
         clear hT2 HT
         go_wp2_with fail
         go_roundw
         case rel => exact ⟨j + 1, by omega, by simp, HT2.out⟩
         case measure => simp [intOf]; omega
       ·
        obtain rfl : j = ps.length := by omega
        have hltI : ¬ (ps.length : Int) < (ps.length : Int) := by omega
        clear hT
        go_wp2_with fail
        go_ret2
        exact .inr ⟨by unfold newOkN; rw [decide_eq_true hq, decide_eq_true ht, hr]; rfl, N, rfl, Q, mac, A, none, _, ec, es, HT.out⟩
     | true =>
      go_wp2_with fail
      (try rw [hw9])
      (try clear hw9)
      (with_reducible refine (spNew_ok id ca cc cs ma he de w9 HIA.out hsp).mono ?_)
      rintro e w10 ⟨S, sd, rfl, hST, hsl, _, _, _, _, b10⟩
      have z10 := b10.size
      have rN10 := (row_below b10 (show N < w9.heap.size by have := HZ9.out; omega)).trans rN9
      obtain ⟨w11, hw11⟩ : ∃ x, w10.setRow N (u8v id ++ (Value.int .i64 ma :: Value.int .i64 he :: Value.int .i64 de :: Value.int .i64 ageing :: Value.slice pa ps.length cap :: (u8v mac ++ [Value.pointer (some ⟨AB, 0, none⟩), Value.pointer (some ⟨S, 0, none⟩), Value.slice ea ps.length ec, Value.pointer (some ⟨Q, 0, none⟩), Value.int .u32 0, Value.int .i64 0]))).toArray = x := ⟨_, rfl⟩
      have rN11 : row w11 N = (u8v id ++ (Value.int .i64 ma :: Value.int .i64 he :: Value.int .i64 de :: Value.int .i64 ageing :: Value.slice pa ps.length cap :: (u8v mac ++ [Value.pointer (some ⟨AB, 0, none⟩), Value.pointer (some ⟨S, 0, none⟩), Value.slice ea ps.length ec, Value.pointer (some ⟨Q, 0, none⟩), Value.int .u32 0, Value.int .i64 0]))).toArray := by rw [← hw11]; exact row_setRow_same (by rw [rN10] <;> simp) (by rw [rN10] <;> simp)
      have b11 : BelowBut w9.heap.size N w9 w11 := by rw [← hw11]; exact (BelowBut.of b10).trans ((BelowBut.set _ _).mono z10)
      have NT := HNT0.out w11 (some ⟨S, 0, none⟩) b11 (by rw [rN11, HAB.out]; unfold nodeC; rfl) (.inr ⟨S, sd, rfl, hST.kept (fun X hX _ => by rw [← hw11]; exact setRow_block_other _ _ _ (by have := HZ9.out; omega)), by rw [hsl]; unfold okSp at hsp; simp only [Bool.and_eq_true, decide_eq_true_eq] at hsp; exact hsp.1.2⟩)
      have HNT := h_ NT
      clear NT HNT0 b11 b10 rN9 rQ9 r19 hST hsl
      go_wp2_with fail
      (try rw [hw11])
      (try clear hw11)
      clear rN10 rN11
      go_loopw [99] (fun i wr => ∃ j : Nat, j ≤ ps.length ∧ i = .int .i64 j ∧ NodeT w wr N Q id ma he de ageing pa cap ps mac r k p d room A (some ⟨S, 0, none⟩) ea ec es j) (fun i _ => ps.length - (intOf i).toNat)
      case atStart => exact ⟨0, by omega, rfl, HNT.out⟩
      case round =>
       obtain ⟨j, hj, rfl, hT⟩ := hrel
       clear HNT
       have rN := hT.rN
       unfold nodeC at rN
       have HT := h_ hT
       by_cases hlt : j < ps.length
       ·
        have hltI : (j : Int) < (ps.length : Int) := by omega
        obtain ⟨eb, eo, rfl, hebl, hcase⟩ := hT.get hlt
        clear hT
        rcases hcase with ⟨hl, hc⟩ | ⟨hl, x, hc, _⟩
        ·
         have HS := h_ (HT.out.state hlt hl)
         go_wp2_with fail
         (with_reducible refine HS.out.mono ?_)
         rintro e w20 ⟨rfl, hT2⟩
         have HT2 := h_ hT2
         clear hT2 hc HS HT rN
         go_wp2_with fail
         go_roundw
         case rel => exact ⟨j + 1, by omega, by simp, HT2.out⟩
         case measure => simp [intOf]; omega
        ·
         have hT2 := HT.out.skip (by unfold tapF; rw [List.getElem?_eq_getElem hlt]; simp [hl])
         have HT2 := h_ hT2
         clear hT2 HT
         go_wp2_with fail
         go_roundw
         case rel => exact ⟨j + 1, by omega, by simp, HT2.out⟩
         case measure => simp [intOf]; omega
       ·
        obtain rfl : j = ps.length := by omega
        have hltI : ¬ (ps.length : Int) < (ps.length : Int) := by omega
        clear hT
        go_wp2_with fail
        go_ret2
        exact .inr ⟨by unfold newOkN; rw [decide_eq_true hq, decide_eq_true ht, hr]; rfl, N, rfl, Q, mac, A, some ⟨S, 0, none⟩, _, ec, es, HT.out⟩
  ·
   cases hr : rightC ma he de ageing ps
   all_goals
    go_wp2_with fail
    (with_reducible refine (qNew_ok room hq _).mono ?_)
    rintro e w3 ⟨Q, rfl, gQ, zQ, rQ, b3⟩
    have z3 := b3.size
    have r13 := (row_below b3 k1).trans r1
    have r23 := (row_below b3 k2).trans r2
    go_wp2_with fail
    (with_reducible refine (HLB.out ht _).mono ?_)
    rintro e w4 ⟨rfl, b4⟩
    have z4 := b4.size
    have r14 := (row_below b4 (show w.heap.size < w3.heap.size by omega)).trans r13
    have r24 := (row_below b4 (show w.heap.size + 1 < w3.heap.size by omega)).trans r23
    have B4 : Below w.heap.size w w4 := b2.trans ((b3.mono (by omega)).trans (b4.mono (by omega)))
    have HC := h_ (confRight_any id ma he de ageing pa cap ps w4 (h.below (B4.mono (Nat.le_refl _))) (by omega))
    unfold confV at HC
    go_wp2_with fail
    (with_reducible refine HC.out.mono ?_)
    rintro e w5 ⟨rfl, b5⟩
    have z5 := b5.size
    have r15 := (row_below b5 (show w.heap.size < w4.heap.size by omega)).trans r14
    have r25 := (row_below b5 (show w.heap.size + 1 < w4.heap.size by omega)).trans r24
    have B5 : Below w.heap.size w w5 := B4.trans (b5.mono (by omega))
    rw [hr]
    go_wp2_with fail
    go_ret2
    exact .inl ⟨by unfold newOkN; rw [decide_eq_true hq, decide_eq_false ht, hr]; simp, rfl, B5⟩
 ·
  by_cases ht : okTimes r k p d
  ·
   cases hr : rightC ma he de ageing ps
   all_goals
    go_wp2_with fail
    (with_reducible refine (qNew_bad room hq _).mono ?_)
    rintro e w3 ⟨rfl, b3⟩
    have z3 := b3.size
    have r13 := (row_below b3 k1).trans r1
    have r23 := (row_below b3 k2).trans r2
    go_wp2_with fail
    (with_reducible refine (HLO.out ht _).mono ?_)
    rintro e w4 ⟨L, rfl, gL, zL, rL, b4⟩
    clear rL
    have z4 := b4.size
    have r14 := (row_below b4 (show w.heap.size < w3.heap.size by omega)).trans r13
    have r24 := (row_below b4 (show w.heap.size + 1 < w3.heap.size by omega)).trans r23
    have B4 : Below w.heap.size w w4 := b2.trans ((b3.mono (by omega)).trans (b4.mono (by omega)))
    have HC := h_ (confRight_any id ma he de ageing pa cap ps w4 (h.below (B4.mono (Nat.le_refl _))) (by omega))
    unfold confV at HC
    go_wp2_with fail
    (with_reducible refine HC.out.mono ?_)
    rintro e w5 ⟨rfl, b5⟩
    have z5 := b5.size
    have r15 := (row_below b5 (show w.heap.size < w4.heap.size by omega)).trans r14
    have r25 := (row_below b5 (show w.heap.size + 1 < w4.heap.size by omega)).trans r24
    have B5 : Below w.heap.size w w5 := B4.trans (b5.mono (by omega))
    rw [hr]
    go_wp2_with fail
    go_ret2
    exact .inl ⟨by unfold newOkN; rw [decide_eq_false hq, decide_eq_true ht, hr]; simp, rfl, B5⟩
  ·
   cases hr : rightC ma he de ageing ps
   all_goals
    go_wp2_with fail
    (with_reducible refine (qNew_bad room hq _).mono ?_)
    rintro e w3 ⟨rfl, b3⟩
    have z3 := b3.size
    have r13 := (row_below b3 k1).trans r1
    have r23 := (row_below b3 k2).trans r2
    go_wp2_with fail
    (with_reducible refine (HLB.out ht _).mono ?_)
    rintro e w4 ⟨rfl, b4⟩
    have z4 := b4.size
    have r14 := (row_below b4 (show w.heap.size < w3.heap.size by omega)).trans r13
    have r24 := (row_below b4 (show w.heap.size + 1 < w3.heap.size by omega)).trans r23
    have B4 : Below w.heap.size w w4 := b2.trans ((b3.mono (by omega)).trans (b4.mono (by omega)))
    have HC := h_ (confRight_any id ma he de ageing pa cap ps w4 (h.below (B4.mono (Nat.le_refl _))) (by omega))
    unfold confV at HC
    go_wp2_with fail
    (with_reducible refine HC.out.mono ?_)
    rintro e w5 ⟨rfl, b5⟩
    have z5 := b5.size
    have r15 := (row_below b5 (show w.heap.size < w4.heap.size by omega)).trans r14
    have r25 := (row_below b5 (show w.heap.size + 1 < w4.heap.size by omega)).trans r24
    have B5 : Below w.heap.size w w5 := B4.trans (b5.mono (by omega))
    rw [hr]
    go_wp2_with fail
    go_ret2
    exact .inl ⟨by unfold newOkN; rw [decide_eq_false hq, decide_eq_false ht, hr]; simp, rfl, B5⟩
end
section
open Go.RowKit Go.Shelf
theorem nHas_nil (port : Int) (w : World) : Calls Tryz.prog 47 #[.pointer none, .int .i64 port] w fun e w' => e = .returned (.tuple #[.bool false, .bool false]) ∧ w' = w := by
 go_enter Tryz.func47, Tryz.ntmps47
 go_wp2_with fail
 go_ret2
 exact ⟨rfl, rfl⟩
theorem nState_nil (port : Int) (w : World) : Calls Tryz.prog 34 #[.pointer none, .int .i64 port] w fun e w' => e = .returned (.int .i64 0) ∧ w' = w := by
 go_enter Tryz.func34, Tryz.ntmps34
 go_wp2_with fail
 (with_reducible refine (nHas_nil _ _).mono ?_)
 rintro e w' ⟨rfl, rfl⟩
 go_wp2_with fail
 go_ret
 exact ⟨rfl, rfl⟩
theorem nUp_nil (port : Int) (w : World) : Calls Tryz.prog 35 #[.pointer none, .int .i64 port] w fun e w' => e = .returned (.bool false) ∧ w' = w := by
 go_enter Tryz.func35, Tryz.ntmps35
 go_wp2_with fail
 (with_reducible refine (nHas_nil _ _).mono ?_)
 rintro e w' ⟨rfl, rfl⟩
 go_wp2_with fail
 go_ret
 exact ⟨rfl, rfl⟩
section
variable {id : Vector UInt8 8} {ma he de ageing : Int} {pa : Option Addr} {n cap : Nat} {mac : Vector UInt8 6} {br spn ea : Option Addr} {ne ec : Nat} {q : Option Addr} {sent ch : Int} {w : World} {N : Nat}
theorem nHas_no (hN : row w N = (nodeC id ma he de ageing pa n cap mac br spn ea ne ec q sent ch).toArray) (port : Int) (h : port < 0 ∨ (ne : Int) ≤ port) : Calls Tryz.prog 47 #[.pointer (some ⟨N, 0, none⟩), .int .i64 port] w fun e w' => e = .returned (.tuple #[.bool false, .bool false]) ∧ w' = w := by
 unfold nodeC at hN
 go_enter Tryz.func47, Tryz.ntmps47
 rcases h with h | h
 ·
  go_wp2_with fail
  go_ret2
  exact ⟨rfl, rfl⟩
 ·
  have h0 : ¬ port < 0 := by omega
  go_wp2_with fail
  go_ret2
  exact ⟨rfl, rfl⟩
theorem nHas_at {b off j : Nat} {x : Option Nat} (hN : row w N = (nodeC id ma he de ageing pa n cap mac br spn (some ⟨b, off, none⟩) ne ec q sent ch).toArray) (hj : j < ne) (hc : w.cell? ⟨b, off + j, none⟩ = some (optP x)) : Calls Tryz.prog 47 #[.pointer (some ⟨N, 0, none⟩), .int .i64 (j : Int)] w fun e w' => e = .returned (.tuple #[.bool true, .bool x.isSome]) ∧ Below w.heap.size w w' := by
 unfold nodeC at hN
 have h0 : ¬ (j : Int) < 0 := by omega
 have h1 : ¬ (ne : Int) ≤ (j : Int) := by omega
 have h2 : (j : Int) < (ne : Int) := by omega
 have h3 : (0 : Int) ≤ (j : Int) := by omega
 unfold optP at hc
 cases x with
 | none =>
  simp only [Option.map_none] at hc
  go_enter Tryz.func47, Tryz.ntmps47
  go_wp2_with fail
  go_quiet (fail)
  go_wp2_with fail
  go_ret2
  exact ⟨rfl, below_drewN (Below.refl _ _) _⟩
 | some y =>
  simp only [Option.map_some] at hc
  go_enter Tryz.func47, Tryz.ntmps47
  go_wp2_with fail
  go_quiet (fail)
  go_wp2_with fail
  go_ret2
  exact ⟨rfl, below_drewN (Below.refl _ _) _⟩
theorem cell_belowN {w w' : World} {b o : Nat} {v : Value} (h : w.cell? ⟨b, o, none⟩ = some v) (hl : b < w.heap.size) (hb : Below w.heap.size w w') : w'.cell? ⟨b, o, none⟩ = some v := (grow_cellQ b o v w w' ⟨h, hl⟩ hb).1
theorem nUp_no (hN : row w N = (nodeC id ma he de ageing pa n cap mac br spn ea ne ec q sent ch).toArray) (port : Int) (h : port < 0 ∨ (ne : Int) ≤ port) : Calls Tryz.prog 35 #[.pointer (some ⟨N, 0, none⟩), .int .i64 port] w fun e w' => e = .returned (.bool false) ∧ Below w.heap.size w w' := by
 have HH := h_ (nHas_no hN port h)
 go_enter Tryz.func35, Tryz.ntmps35
 go_wp2_with fail
 (with_reducible refine HH.out.mono ?_)
 rintro e w' ⟨rfl, rfl⟩
 go_wp2_with fail
 go_ret
 exact ⟨rfl, Below.refl _ _⟩
theorem nUp_tap {b off j : Nat} (hN : row w N = (nodeC id ma he de ageing pa n cap mac br spn (some ⟨b, off, none⟩) ne ec q sent ch).toArray) (hj : j < ne) (hc : w.cell? ⟨b, off + j, none⟩ = some (.pointer none)) : Calls Tryz.prog 35 #[.pointer (some ⟨N, 0, none⟩), .int .i64 (j : Int)] w fun e w' => e = .returned (.bool true) ∧ Below w.heap.size w w' := by
 have HH := h_ (nHas_at (x := none) hN hj hc)
 go_enter Tryz.func35, Tryz.ntmps35
 go_wp2_with fail
 (with_reducible refine HH.out.mono ?_)
 rintro e w' ⟨rfl, b1⟩
 simp only [Option.isSome_none]
 go_wp2_with fail
 go_ret
 exact ⟨rfl, b1⟩
theorem nState_link {b off j x L M : Nat} {pl : Int} (hN : row w N = (nodeC id ma he de ageing pa n cap mac br spn (some ⟨b, off, none⟩) ne ec q sent ch).toArray) (hj : j < ne) (hb : b < w.heap.size) (hc : w.cell? ⟨b, off + j, none⟩ = some (.pointer (some ⟨x, 0, none⟩))) (hx : row w x = endV L M pl)
  (hS : ∀ W, Below w.heap.size w W → Calls Tryz.prog 53 #[.pointer spn, .int .i64 pl] W fun e w' => e = .returned (.int .i64 0) ∧ Below W.heap.size W w') : Calls Tryz.prog 34 #[.pointer (some ⟨N, 0, none⟩), .int .i64 (j : Int)] w fun e w' => e = .returned (.int .i64 0) ∧ Below w.heap.size w w' := by
 have zN : N < w.heap.size := lt_of_row (i := 0) (by rw [hN]; simp [nodeC])
 have zx : x < w.heap.size := lt_of_row (i := 0) (by rw [hx]; simp [endV])
 have HH := h_ (nHas_at (x := some x) hN hj hc)
 have HS := h_ hS
 have HB := h_ hb
 clear hS hb
 have hjI : (j : Int) < (ne : Int) := by omega
 go_enter Tryz.func34, Tryz.ntmps34
 go_wp2_with fail
 (with_reducible refine HH.out.mono ?_)
 rintro e w1 ⟨rfl, b1⟩
 have rN1 := (row_below b1 zN).trans hN
 have rx1 := (row_below b1 zx).trans hx
 have hc1 := cell_belowN hc HB.out b1
 unfold nodeC at rN1
 unfold endV at rx1
 clear hN hx hc
 simp only [Option.isSome_some]
 have cN3 : w1.cell? ⟨N, 20, none⟩ = some (.pointer spn) := by rw [cell_of_row' (by rw [rN1]; simp), rN1]; simp
 have cN4 : w1.cell? ⟨N, 21, none⟩ = some (.slice (some ⟨b, off, none⟩) ne ec) := by rw [cell_of_row' (by rw [rN1]; simp), rN1]; simp
 have cx : w1.cell? ⟨x, 2, none⟩ = some (.int .i64 pl) := by rw [cell_of_row' (by rw [rx1]; simp), rx1]; rfl
 have zs1 := b1.size
 have kb := HB.out
 have hG : GrowP fun W => (W.cell? ⟨N, 20, none⟩ = some (.pointer spn) ∧ N < W.heap.size) ∧ (W.cell? ⟨N, 21, none⟩ = some (.slice (some ⟨b, off, none⟩) ne ec) ∧ N < W.heap.size) ∧ (W.cell? ⟨b, off + j, none⟩ = some (.pointer (some ⟨x, 0, none⟩)) ∧ b < W.heap.size) ∧ (W.cell? ⟨x, 2, none⟩ = some (.int .i64 pl) ∧ x < W.heap.size) := GrowP.and (grow_cellQ _ _ _) (GrowP.and (grow_cellQ _ _ _) (GrowP.and (grow_cellQ _ _ _) (grow_cellQ _ _ _)))
 have hX : (w1.cell? ⟨N, 20, none⟩ = some (.pointer spn) ∧ N < w1.heap.size) ∧ (w1.cell? ⟨N, 21, none⟩ = some (.slice (some ⟨b, off, none⟩) ne ec) ∧ N < w1.heap.size) ∧ (w1.cell? ⟨b, off + j, none⟩ = some (.pointer (some ⟨x, 0, none⟩)) ∧ b < w1.heap.size) ∧ (w1.cell? ⟨x, 2, none⟩ = some (.int .i64 pl) ∧ x < w1.heap.size) := ⟨⟨cN3, by omega⟩, ⟨cN4, by omega⟩, ⟨hc1, by omega⟩, cx, by omega⟩
 have HX := h_ hX
 clear hX cN3 cN4 cx hc1 rN1 rx1
 go_wp2_with fail
 have hG2 : GrowP (fun W => Below w1.heap.size w1 W ∧ (W.cell? ⟨N, 20, none⟩ = some (.pointer spn) ∧ N < W.heap.size) ∧ (W.cell? ⟨N, 21, none⟩ = some (.slice (some ⟨b, off, none⟩) ne ec) ∧ N < W.heap.size) ∧ (W.cell? ⟨b, off + j, none⟩ = some (.pointer (some ⟨x, 0, none⟩)) ∧ b < W.heap.size) ∧ (W.cell? ⟨x, 2, none⟩ = some (.int .i64 pl) ∧ x < W.heap.size)) := GrowP.and (fun w w' h hb => h.trans (hb.mono h.size)) hG
 clear hG
 have hG := hG2
 clear hG2
 refine rgX_ [] (fun W => Below w1.heap.size w1 W ∧ (W.cell? ⟨N, 20, none⟩ = some (.pointer spn) ∧ N < W.heap.size) ∧ (W.cell? ⟨N, 21, none⟩ = some (.slice (some ⟨b, off, none⟩) ne ec) ∧ N < W.heap.size) ∧ (W.cell? ⟨b, off + j, none⟩ = some (.pointer (some ⟨x, 0, none⟩)) ∧ b < W.heap.size) ∧ (W.cell? ⟨x, 2, none⟩ = some (.int .i64 pl) ∧ x < W.heap.size)) hG (⟨Below.refl _ _, HX.out⟩) (fun hS => ?_)
 refine sp 0 hG hS ?_
 refine sp 1 hG hS ?_
 refine sp 2 hG hS ?_
 refine sp 3 hG hS ?_
 refine sp 4 hG hS ?_
 refine sp 5 hG hS ?_
 refine sp 6 hG hS ?_
 refine sp 7 hG hS ?_
 refine sp 8 hG hS ?_
 refine sp 9 hG hS ?_
 refine sp 10 hG hS ?_
 refine sp 11 hG hS ?_
 refine sp 12 hG hS ?_
 refine sp 13 hG hS ?_
 refine sc 14 (v := ?_) hG hS ?_ ?_
 rotate_left
 ·
  intro w' hS'
  obtain ⟨hS', hX'⟩ := hS'
  simp only [Rws] at hS'
  go_simp
  with_reducible refine (HS.out _ (b1.trans (hX'.1.mono zs1))).mono ?_
  rintro e w'' ⟨rfl, hb⟩
  exact ⟨_, rfl, by rfl, hb⟩
 refine sp 15 hG hS ?_
 refine wpAnyR_done kr_ (fun y2 by2 => ?_) _
 have B2 := (hG _ _ hS.2 by2).1
 go_wp2_with fail
 go_ret
 exact ⟨rfl, b1.trans (B2.mono zs1)⟩
theorem nUp_link {b off j x L M : Nat} {pl : Int} (hN : row w N = (nodeC id ma he de ageing pa n cap mac br spn (some ⟨b, off, none⟩) ne ec q sent ch).toArray) (hj : j < ne) (hb : b < w.heap.size) (hc : w.cell? ⟨b, off + j, none⟩ = some (.pointer (some ⟨x, 0, none⟩))) (hx : row w x = endV L M pl)
  (hS : ∀ W, Below w.heap.size w W → Calls Tryz.prog 54 #[.pointer (some ⟨L, 0, none⟩)] W fun e w' => e = .returned (.bool false) ∧ Below W.heap.size W w') : Calls Tryz.prog 35 #[.pointer (some ⟨N, 0, none⟩), .int .i64 (j : Int)] w fun e w' => e = .returned (.bool false) ∧ Below w.heap.size w w' := by
 have zN : N < w.heap.size := lt_of_row (i := 0) (by rw [hN]; simp [nodeC])
 have zx : x < w.heap.size := lt_of_row (i := 0) (by rw [hx]; simp [endV])
 have HH := h_ (nHas_at (x := some x) hN hj hc)
 have HS := h_ hS
 have HB := h_ hb
 clear hS hb
 have hjI : (j : Int) < (ne : Int) := by omega
 go_enter Tryz.func35, Tryz.ntmps35
 go_wp2_with fail
 (with_reducible refine HH.out.mono ?_)
 rintro e w1 ⟨rfl, b1⟩
 have rN1 := (row_below b1 zN).trans hN
 have rx1 := (row_below b1 zx).trans hx
 have hc1 := cell_belowN hc HB.out b1
 unfold nodeC at rN1
 unfold endV at rx1
 clear hN hx hc
 simp only [Option.isSome_some]
 have zs1 := b1.size
 go_wp2_with fail
 (with_reducible refine (HS.out _ b1).mono ?_)
 rintro e w2 ⟨rfl, b2⟩
 go_wp2_with fail
 go_ret
 exact ⟨rfl, b1.trans (b2.mono zs1)⟩
end
end
section
open Go.RowKit Go.Shelf
structure NdP where
 id : Vector UInt8 8
 ma : Int
 he : Int
 de : Int
 ageing : Int
 pa : Option Addr
 pn : Nat
 cap : Nat
 mac : Vector UInt8 6
 B : Nat
 spn : Option Addr
 eb : Nat
 ec : Nat
 Q : Nat
 es : List (Option Nat)
 D : Nat
def NdP.cells (p : NdP) : List Value := nodeC p.id p.ma p.he p.de p.ageing p.pa p.pn p.cap p.mac (some ⟨p.B, 0, none⟩) p.spn (some ⟨p.eb, 0, none⟩) p.es.length p.ec (some ⟨p.Q, 0, none⟩) 0 0
structure DownAt (S : List Nat) (D : Nat) (w : World) (x L M : Nat) (pl : Int) (t : LinkT) : Prop where
 xS : x ∉ S
 rx : row w x = endV L M pl
 LS : L ∉ S
 LD : L < D
 psk : t.psk.length = 32
 dn : t.a = none
 rL : row w L = t.cells.toArray
structure Quiet (S : List Nat) (w : World) (N : Nat) (p : NdP) : Prop where
 nS : N ∉ S
 nd : row w N = p.cells.toArray
 eS : p.eb ∉ S
 pos : 0 < p.es.length
 n32 : p.es.length ≤ 32
 ends : ∃ rest, row w p.eb = (p.es.map optP ++ rest).toArray
 down : ∀ x, some x ∈ p.es → ∃ L M pl t, DownAt S p.D w x L M pl t
 SD : ∀ b ∈ S, b < p.D
 span : p.spn = none ∨ ∃ sb s, p.spn = some ⟨sb, 0, none⟩ ∧ SpT w p.D sb s ∧ s.ps.length ≤ 32
theorem DownAt.ltx {S : List Nat} {D : Nat} {w : World} {x L M : Nat} {pl : Int} {t : LinkT} (h : DownAt S D w x L M pl t) : x < w.heap.size := lt_of_row (i := 0) (by rw [h.rx]; simp [endV])
theorem DownAt.ltL {S : List Nat} {D : Nat} {w : World} {x L M : Nat} {pl : Int} {t : LinkT} (h : DownAt S D w x L M pl t) : L < w.heap.size := lt_of_row (i := 0) (by rw [h.rL]; simp [LinkT.cells])
theorem Quiet.ltN {S : List Nat} {w : World} {N : Nat} {p : NdP} (h : Quiet S w N p) : N < w.heap.size := lt_of_row (i := 0) (by rw [h.nd]; simp [NdP.cells, nodeC])
theorem Quiet.lte {S : List Nat} {w : World} {N : Nat} {p : NdP} (h : Quiet S w N p) : p.eb < w.heap.size := by
 obtain ⟨rest, hr⟩ := h.ends
 exact lt_of_row (i := 0) (by rw [hr]; have := h.pos; simp; omega)
theorem Quiet.kept {S : List Nat} {w w' : World} {N : Nat} {p : NdP} (h : Quiet S w N p) (hb : BelowS w.heap.size S w w') : Quiet S w' N p := by
 refine ⟨h.nS, (hb.row h.ltN h.nS).trans h.nd, h.eS, h.pos, h.n32, ?_, fun x hx => ?_, h.SD, ?_⟩
 ·
  obtain ⟨rest, hr⟩ := h.ends
  exact ⟨rest, (hb.row h.lte h.eS).trans hr⟩
 ·
  obtain ⟨L, M, pl, t, d⟩ := h.down x hx
  exact ⟨L, M, pl, t, d.xS, (hb.row d.ltx d.xS).trans d.rx, d.LS, d.LD, d.psk, d.dn, (hb.row d.ltL d.LS).trans d.rL⟩
 ·
  rcases h.span with h1 | ⟨sb, s, h1, h2, h3⟩
  ·
   exact .inl h1
  ·
   exact .inr ⟨sb, s, h1, h2.kept fun k hk hl => hb.block k hl fun hm => by have := h.SD k hm; omega, h3⟩
theorem Quiet.below {S : List Nat} {w w' : World} {N : Nat} {p : NdP} (h : Quiet S w N p) (hb : Below w.heap.size w w') : Quiet S w' N p := h.kept (BelowS.of hb)
theorem optP_getC {es : List (Option Nat)} {rest : List Value} {w : World} {b q : Nat} (h : row w b = (es.map optP ++ rest).toArray) (hq : q < es.length) : w.cell? ⟨b, q, none⟩ = some (optP es[q]) := by
 have hs : q < (row w b).size := by rw [h]; simp; omega
 rw [cell_of_row' hs]
 rw [h, List.getElem?_toArray, List.getElem?_append_left (by simpa using hq), List.getElem?_map, List.getElem?_eq_getElem hq]
 rfl
theorem NodeT.quiet {w0 w : World} {N Q : Nat} {id : Vector UInt8 8} {ma he de ageing : Int} {pa : Option Addr} {cap : Nat} {ps : List PortX} {mac : Vector UInt8 6} {r k p d room : Int} {A : BrA} {sp ea : Option Addr} {ec : Nat} {es : List (Option Nat)} {j : Nat}
  (h : NodeT w0 w N Q id ma he de ageing pa cap ps mac r k p d room A sp ea ec es j) : ∃ eb D, ea = some ⟨eb, 0, none⟩ ∧ es.length = ps.length ∧ (∀ (i : Nat) (x : PortX), ps[i]? = some x → ∃ e : Option Nat, es[i]? = some e ∧ e.isSome = x.link) ∧ Quiet (Q :: A.muts) w N ⟨id, ma, he, de, ageing, pa, ps.length, cap, mac, A.B, sp, eb, ec, Q, es, D⟩ := by
 have g := newG _ _ h.ok
 have hn32 : ps.length ≤ 32 := by have := g.1.n32; simpa [newS] using this
 have hpos : 0 < ps.length := by have := g.2.1; simpa using this
 have nN : N ∉ A.muts := fun hm => by have := (h.lo N (mut_place hm)).1; omega
 have nQ : Q ∉ A.muts := fun hm => by have := (h.lo Q (mut_place hm)).2; omega
 obtain ⟨B, wC, h1, h2, h3, h4, h5, h6, h7⟩ := h.own
 have hl : es.length = ps.length := h4.1
 have h3' := h3.keep (w' := w) fun X hX => h6 X (h3.blk hX).1 (h3.blk hX).2.1
 have hne : es.map (fun e => [optP e]) ≠ [] := by
  intro e
  have := congrArg List.length e
  simp at this
  rw [this] at hl
  simp at hl
  omega
 obtain ⟨g0, cap0, rest, e0, hr0, hB0, hg0⟩ := own_rowE h3' hne
 obtain ⟨g1, cap1, rest1, e1, _, _, hg1⟩ := own_rowE h3 hne
 rw [e0] at e1
 have hg01 : g0 = g1 := by simp at e1; exact e1.1
 have hea : ea = some ⟨g0, 0, none⟩ ∧ ec = cap0 := by
  simp only [Value.slice.injEq] at e0
  exact ⟨e0.1, e0.2.2⟩
 have hec : ps.length = es.length := hl.symm
 have hm : ∀ b ∈ A.muts, wC.heap.size ≤ b := h7
 have hSin : ∀ X, B ≤ X → X < wC.heap.size → X ∉ Q :: A.muts := fun X hX hX2 hm2 => by
  rcases List.mem_cons.1 hm2 with e | e
  ·
   omega
  ·
   have := h7 X e; omega
 obtain ⟨D, hD, hspan⟩ : ∃ D, (∀ b ∈ Q :: A.muts, b < D) ∧ (sp = none ∨ ∃ sb s, sp = some ⟨sb, 0, none⟩ ∧ SpT w D sb s ∧ s.ps.length ≤ 32) := by
  rcases h.span with e | ⟨D, sb, s, e1, e2, e3, e4, e5, e6⟩
  ·
   obtain ⟨l1, l2, l3, l4, l5, l6⟩ := h.br.lts
   refine ⟨w.heap.size, fun b hb => ?_, .inl e⟩
   rcases List.mem_cons.1 hb with rfl | hb
   ·
    exact h.ltQ
   ·
    have := mut_place hb
    simp only [List.mem_cons, List.not_mem_nil, or_false] at this
    rcases this with rfl | rfl | rfl | rfl | rfl | rfl <;> assumption
  ·
   exact ⟨D, fun b hb => by
    rcases List.mem_cons.1 hb with rfl | hb
    ·
     exact e5
    ·
     exact e6 b hb, .inr ⟨sb, s, e1, e2, e3⟩⟩
 have hmu : A.B ∈ A.muts := by simp [BrA.muts]
 have hCD : wC.heap.size < D := Nat.lt_of_le_of_lt (h7 _ hmu) (hD _ (List.mem_cons_of_mem _ hmu))
 refine ⟨g0, D, hea.1, hl, fun i x hx => ?_, ⟨fun hm2 => ?_, ?_, hSin g0 hB0 (by rw [hg01]; exact hg1), by rw [hl]; exact hpos, by rw [hl]; exact hn32, ⟨rest, ?_⟩, fun x hx => ?_, hD, hspan⟩⟩
 ·
  rcases h4.2 i x hx with ⟨f1, f2⟩ | ⟨f1, b, f2, _⟩
  ·
   exact ⟨none, f2, by rw [f1]; rfl⟩
  ·
   exact ⟨some b, f2, by rw [f1]; rfl⟩
 ·
  rcases List.mem_cons.1 hm2 with e | e
  ·
   exact h.ne e
  ·
   exact nN e
 ·
  rw [h.rN]
  unfold NdP.cells
  rw [hea.1]
  simp [hec]
 ·
  rw [hr0]
  have : ∀ l : List (Option Nat), (l.map fun e => [optP e]).flatten = l.map optP := fun l => by
   induction l with
   | nil => rfl
   | cons a l ih => simp [ih]
  rw [this]
 ·
  replace hx : some x ∈ es := hx
  obtain ⟨i, hi, e⟩ := List.getElem_of_mem hx
  have hip : i < ps.length := by omega
  rcases h4.2 i ps[i] (List.getElem?_eq_getElem hip) with ⟨f1, f2⟩ | ⟨f1, b, f2, f3, L, M, pl, f4, f5, f6⟩
  ·
   rw [List.getElem?_eq_getElem hi, e] at f2
   cases f2
  ·
   rw [List.getElem?_eq_getElem hi, e] at f2
   simp only [Option.some.injEq] at f2
   subst f2
   have zx := (Array.getElem?_eq_some_iff.1 f4).1
   have zL : L < wC.heap.size := lt_of_row (i := 0) (by rw [f6]; simp [newT, LinkT.cells])
   exact ⟨L, M, pl, newT ps[i].psk.toList ps[i].greets r k p d, hSin x f3 zx, row_endAt ((h6 x f3 zx).trans f4), hSin L f5 zL, (show L < D from by omega), by simp [newT], rfl, (row_of_block (h6 L f5 zL)).trans f6⟩
theorem Quiet.spState {S : List Nat} {w : World} {N : Nat} {p : NdP} (h : Quiet S w N p) (pl : Int) : Calls Tryz.prog 53 #[.pointer p.spn, .int .i64 pl] w fun e w' => e = .returned (.int .i64 0) ∧ Below w.heap.size w w' := by
 rcases h.span with h1 | ⟨sb, s, h1, h2, h3⟩
 ·
  rw [h1]
  exact (spState_nil w pl).mono fun e w' h => ⟨h.1, by rw [h.2]; exact Below.refl _ _⟩
 ·
  rw [h1]
  exact (spState_down w h2 pl h3).mono fun e w' h => ⟨h.1, by rw [h.2]; exact Below.refl _ _⟩
theorem Quiet.spChanges {S : List Nat} {w : World} {N : Nat} {p : NdP} (h : Quiet S w N p) : Calls Tryz.prog 79 #[.pointer p.spn] w fun e w' => e = .returned (.int .i64 0) ∧ Below w.heap.size w w' := by
 rcases h.span with h1 | ⟨sb, s, h1, h2, h3⟩
 ·
  rw [h1]
  exact (spChanges_nil w).mono fun e w' h => ⟨h.1, by rw [h.2]; exact Below.refl _ _⟩
 ·
  rw [h1]
  exact (spChanges_down w h2).mono fun e w' h => ⟨h.1, by rw [h.2]; exact Below.refl _ _⟩
theorem DownAt.up {S : List Nat} {D : Nat} {w : World} {x L M : Nat} {pl : Int} {t : LinkT} (d : DownAt S D w x L M pl t) : Calls Tryz.prog 54 #[.pointer (some ⟨L, 0, none⟩)] w fun e w' => e = .returned (.bool false) ∧ Below w.heap.size w w' := by
 have hL := d.rL
 have hp := d.psk
 have ha := d.dn
 obtain ⟨psk, g, r, k, p, d2, now, a, b, c, talk, asked, made, last⟩ := t
 dsimp only at hp ha
 subst ha
 exact (up_no psk g r k p d2 now asked made last b c talk L w hp hL).mono fun e w' h => ⟨h.1, by rw [h.2]; exact Below.refl _ _⟩
section
variable {S : List Nat} {w : World} {N : Nat} {p : NdP}
theorem Quiet.cell (h : Quiet S w N p) {q : Nat} (hq : q < p.es.length) : w.cell? ⟨p.eb, 0 + q, none⟩ = some (optP p.es[q]) := by
 obtain ⟨rest, hr⟩ := h.ends
 rw [Nat.zero_add]
 exact optP_getC hr hq
theorem Quiet.has (h : Quiet S w N p) (q : Nat) (hq : q < p.es.length) : Calls Tryz.prog 47 #[.pointer (some ⟨N, 0, none⟩), .int .i64 (q : Int)] w fun e w' => e = .returned (.tuple #[.bool true, .bool p.es[q].isSome]) ∧ Below w.heap.size w w' :=
 nHas_at (x := p.es[q]) h.nd hq (h.cell hq)
theorem Quiet.hasNo (h : Quiet S w N p) (port : Int) (hp : port < 0 ∨ (p.es.length : Int) ≤ port) : Calls Tryz.prog 47 #[.pointer (some ⟨N, 0, none⟩), .int .i64 port] w fun e w' => e = .returned (.tuple #[.bool false, .bool false]) ∧ Below w.heap.size w w' :=
 (nHas_no h.nd port hp).mono fun e w' h => ⟨h.1, by rw [h.2]; exact Below.refl _ _⟩
theorem Quiet.up (h : Quiet S w N p) (q : Nat) (hq : q < p.es.length) : Calls Tryz.prog 35 #[.pointer (some ⟨N, 0, none⟩), .int .i64 (q : Int)] w fun e w' => e = .returned (.bool (!p.es[q].isSome)) ∧ Below w.heap.size w w' := by
 have hc := h.cell hq
 cases he : p.es[q] with
 | none =>
  rw [he] at hc
  exact nUp_tap h.nd hq hc
 | some x =>
  rw [he] at hc
  obtain ⟨L, M, pl, t, d⟩ := h.down x (he ▸ List.getElem_mem hq)
  exact nUp_link h.nd hq h.lte hc d.rx fun W hW => by
   obtain ⟨rx, d2⟩ : row W x = endV L M pl ∧ DownAt S p.D W x L M pl t := ⟨(row_below hW d.ltx).trans d.rx, d.xS, (row_below hW d.ltx).trans d.rx, d.LS, d.LD, d.psk, d.dn, (row_below hW d.ltL).trans d.rL⟩
   exact d2.up
theorem Quiet.upNo (h : Quiet S w N p) (port : Int) (hp : port < 0 ∨ (p.es.length : Int) ≤ port) : Calls Tryz.prog 35 #[.pointer (some ⟨N, 0, none⟩), .int .i64 port] w fun e w' => e = .returned (.bool false) ∧ Below w.heap.size w w' := nUp_no h.nd port hp
end
end
section
open Go.RowKit Go.Shelf
theorem settled_any {S : List Nat} {w : World} {N : Nat} {p : NdP} (h : Quiet S w N p) : Calls Tryz.prog 44 #[.pointer (some ⟨N, 0, none⟩)] w fun e w' => e = .returned (.slice none 0 0) ∧ Below w.heap.size w w' := by
 have hnd := h.nd
 have n32 := h.n32
 have zN := h.ltN
 unfold NdP.cells nodeC at hnd
 have HSC := h_ (fun (W : World) (hW : Below w.heap.size w W) (pl : Int) => (h.below hW).spState pl)
 have HCH := h_ (fun (W : World) (hW : Below w.heap.size w W) => (h.below hW).spChanges)
 have hcell := fun (q : Nat) (hq : q < p.es.length) (W : World) (hW : Below w.heap.size w W) => (h.below hW).cell hq
 have hdn := fun (x : Nat) (hx : some x ∈ p.es) => h.down x hx
 obtain ⟨n, hn⟩ : ∃ n, p.es.length = n := ⟨_, rfl⟩
 rw [hn] at hnd n32
 have HN := h_ hn
 have HND := h_ hnd
 have HC := h_ hcell
 have HD := h_ hdn
 clear h hn hcell hdn
 obtain ⟨id, ma, he, de, ageing, pa, pn, cap, mac, B, spn, eb, ec, qq, es, D⟩ := p
 dsimp only at *
 have hnI : (n : Int) ≤ 32 := by omega
 go_enter Tryz.func44, Tryz.ntmps44
 go_wp2_with fail
 go_loopw [3, 14] (fun u i wr => ∃ j : Nat, j ≤ n ∧ u = .slice none 0 0 ∧ i = .int .i64 j ∧ Below w.heap.size w wr) (fun _ i _ => n - (intOf i).toNat)
 case atStart => exact ⟨0, by omega, rfl, rfl, Below.refl _ _⟩
 case round =>
  obtain ⟨j, hj, rfl, rfl, cb⟩ := hrel
  have zb := cb.size
  have rN := (row_below cb zN).trans hnd
  by_cases hlt : j < n
  ·
   have hltI : (j : Int) < (n : Int) := by omega
   have hq : j < es.length := by have := HN.out; omega
   have hc := HC.out j hq wr cb
   rw [Nat.zero_add] at hc
   obtain ⟨o, ho⟩ : ∃ o, es[j] = o := ⟨_, rfl⟩
   rw [ho] at hc
   cases o with
   | none =>
    simp only [optP, Option.map_none] at hc
    clear hnd ho
    go_wp2_with fail
    have hG : GrowP fun W => Below wr.heap.size wr W := grow_base wr
    refine rgX_ [] (fun W => Below wr.heap.size wr W) hG (Below.refl _ _) (fun hS => ?_)
    refine sp 0 hG hS ?_
    refine sp 1 hG hS ?_
    refine sp 2 hG hS ?_
    refine sn 3 hG hS ?_
    refine sn 4 hG hS ?_
    refine sn 5 hG hS ?_
    refine sn 6 hG hS ?_
    refine sn 7 hG hS ?_
    refine sn 8 hG hS ?_
    refine sn 9 hG hS ?_
    refine sn 10 hG hS ?_
    refine sn 11 hG hS ?_
    refine sn 12 hG hS ?_
    refine sp 13 hG hS ?_
    refine wpAnyR_done kr_ (fun w2 bw2 => ?_) _
    have cb2 := cb.trans (((below_step hS.2 bw2)).mono zb)
    clear hS bw2 rN hc
    go_wp2_with fail
    go_roundw
    case rel => exact ⟨j + 1, by omega, rfl, by simp, cb2⟩
    case measure => simp [intOf]; omega
   | some x =>
    simp only [optP, Option.map_some] at hc
    obtain ⟨L, M, pl, t, d0⟩ := HD.out x (ho ▸ List.getElem_mem hq)
    have d : DownAt S D wr x L M pl t := ⟨d0.xS, (row_below cb d0.ltx).trans d0.rx, d0.LS, d0.LD, d0.psk, d0.dn, (row_below cb d0.ltL).trans d0.rL⟩
    have rx := d.rx
    have zx := d.ltx
    unfold endV at rx
    have HU := h_ (fun (W : World) (hW : Below wr.heap.size wr W) => (show DownAt S D W x L M pl t from ⟨d.xS, (row_below hW d.ltx).trans d.rx, d.LS, d.LD, d.psk, d.dn, (row_below hW d.ltL).trans d.rL⟩).up)
    clear hnd ho d0 d
    go_wp2_with fail
    have hG : GrowP fun W => Below wr.heap.size wr W := grow_base wr
    refine rgX_ [(x, #[Value.pointer (some ⟨L, 0, none⟩), Value.map (some M), Value.int .i64 pl, Value.bool false, Value.int .i64 0])] (fun W => Below wr.heap.size wr W) hG (Below.refl _ _) (fun hS => ?_)
    refine sp 0 hG hS ?_
    refine sp 1 hG hS ?_
    refine sp 2 hG hS ?_
    refine sp 3 hG hS ?_
    refine sp 4 hG hS ?_
    refine sp 5 hG hS ?_
    refine sp 6 hG hS ?_
    refine sp 7 hG hS ?_
    refine sp 8 hG hS ?_
    refine sp 9 hG hS ?_
    refine sp 10 hG hS ?_
    refine sc 11 (v := ?_) hG hS ?_ ?_
    rotate_left
    ·
     intro w' hS'
     obtain ⟨hS', hX'⟩ := hS'
     simp only [Rws] at hS'
     go_simp
     with_reducible refine (HU.out _ hX').mono ?_
     rintro e w'' ⟨rfl, hb⟩
     exact ⟨_, rfl, by rfl, hb⟩
    refine sp 12 hG hS ?_
    refine sp 13 hG hS ?_
    refine wpAnyR_done kr_ (fun w2 bw2 => ?_) _
    have cb2 := cb.trans (((below_step hS.2 bw2)).mono zb)
    clear hS bw2 rN hc rx HU
    go_wp2_with fail
    go_roundw
    case rel => exact ⟨j + 1, by omega, rfl, by simp, cb2⟩
    case measure => simp [intOf]; omega
  ·
   obtain rfl : j = n := by omega
   have hltI : ¬ (j : Int) < (j : Int) := by omega
   clear hnd
   go_wp2_with fail
   go_loopw [63] (fun i wr => ∃ k : Nat, k ≤ j ∧ i = .int .i64 k ∧ Below w.heap.size w wr) (fun i _ => j - (intOf i).toNat)
   case atStart => exact ⟨0, by omega, rfl, cb⟩
   case round =>
    clear cb zb rN
    obtain ⟨k, hk, rfl, cb⟩ := hrel
    have zb := cb.size
    have rN := (row_below cb zN).trans HND.out
    by_cases hlt : k < j
    ·
     have hltI : (k : Int) < (j : Int) := by omega
     have hq : k < es.length := by have := HN.out; omega
     have hc := HC.out k hq wr cb
     rw [Nat.zero_add] at hc
     obtain ⟨o, ho⟩ : ∃ o, es[k] = o := ⟨_, rfl⟩
     rw [ho] at hc
     cases o with
     | none =>
      simp only [optP, Option.map_none] at hc
      clear ho
      go_wp2_with fail
      have hG : GrowP fun W => Below wr.heap.size wr W := grow_base wr
      refine rgX_ [] (fun W => Below wr.heap.size wr W) hG (Below.refl _ _) (fun hS => ?_)
      refine sp 0 hG hS ?_
      refine sp 1 hG hS ?_
      refine sp 2 hG hS ?_
      refine sn 3 hG hS ?_
      refine sn 4 hG hS ?_
      refine sn 5 hG hS ?_
      refine sn 6 hG hS ?_
      refine sn 7 hG hS ?_
      refine sn 8 hG hS ?_
      refine sn 9 hG hS ?_
      refine sn 10 hG hS ?_
      refine sn 11 hG hS ?_
      refine sn 12 hG hS ?_
      refine sn 13 hG hS ?_
      refine sn 14 hG hS ?_
      refine sn 15 hG hS ?_
      refine sn 16 hG hS ?_
      refine sp 17 hG hS ?_
      refine wpAnyR_done kr_ (fun w2 bw2 => ?_) _
      have cb2 := cb.trans (((below_step hS.2 bw2)).mono zb)
      clear hS bw2 rN hc
      go_wp2_with fail
      go_roundw
      case rel => exact ⟨k + 1, by omega, by simp, cb2⟩
      case measure => simp [intOf]; omega
     | some x =>
      simp only [optP, Option.map_some] at hc
      obtain ⟨L, M, pl, t, d0⟩ := HD.out x (ho ▸ List.getElem_mem hq)
      have rx := (row_below cb d0.ltx).trans d0.rx
      have zx : x < wr.heap.size := Nat.lt_of_lt_of_le d0.ltx zb
      have zN2 : N < wr.heap.size := Nat.lt_of_lt_of_le zN zb
      unfold endV at rx
      have HS := h_ (fun (W : World) (hW : Below wr.heap.size wr W) => HSC.out W (cb.trans (hW.mono zb)) pl)
      have cN3 : wr.cell? ⟨N, 20, none⟩ = some (.pointer spn) := by rw [cell_of_row' (by rw [rN]; simp), rN]; simp
      clear ho d0
      go_wp2_with fail
      have hG : GrowP fun W => Below wr.heap.size wr W ∧ (W.cell? ⟨N, 20, none⟩ = some (.pointer spn) ∧ N < W.heap.size) := GrowP.and (grow_base wr) (grow_cellQ _ _ _)
      refine rgX_ [(x, #[Value.pointer (some ⟨L, 0, none⟩), Value.map (some M), Value.int .i64 pl, Value.bool false, Value.int .i64 0])] (fun W => Below wr.heap.size wr W ∧ (W.cell? ⟨N, 20, none⟩ = some (.pointer spn) ∧ N < W.heap.size)) hG (⟨Below.refl _ _, cN3, zN2⟩) (fun hS => ?_)
      refine sp 0 hG hS ?_
      refine sp 1 hG hS ?_
      refine sp 2 hG hS ?_
      refine sp 3 hG hS ?_
      refine sp 4 hG hS ?_
      refine sp 5 hG hS ?_
      refine sp 6 hG hS ?_
      refine sp 7 hG hS ?_
      refine sp 8 hG hS ?_
      refine sp 9 hG hS ?_
      refine sp 10 hG hS ?_
      refine sp 11 hG hS ?_
      refine sp 12 hG hS ?_
      refine sp 13 hG hS ?_
      refine sp 14 hG hS ?_
      refine sc 15 (v := ?_) hG hS ?_ ?_
      rotate_left
      ·
       intro w' hS'
       obtain ⟨hS', hX'⟩ := hS'
       simp only [Rws] at hS'
       go_simp
       with_reducible refine (HS.out _ hX'.1).mono ?_
       rintro e w'' ⟨rfl, hb⟩
       exact ⟨_, rfl, by rfl, hb⟩
      refine sp 16 hG hS ?_
      refine sp 17 hG hS ?_
      refine wpAnyR_done kr_ (fun w2 bw2 => ?_) _
      have cb2 := cb.trans (((below_step hS.2.1 bw2)).mono zb)
      clear hS bw2 rN hc rx HS cN3
      go_wp2_with fail
      go_roundw
      case rel => exact ⟨k + 1, by omega, by simp, cb2⟩
      case measure => simp [intOf]; omega
    ·
     obtain rfl : k = j := by omega
     have hltI : ¬ (k : Int) < (k : Int) := by omega
     have HH := h_ (HCH.out wr cb)
     go_wp2_with fail
     (with_reducible refine HH.out.mono ?_)
     rintro e w3 ⟨rfl, b3⟩
     have rN3 := (row_below b3 (Nat.lt_of_lt_of_le zN zb)).trans rN
     clear rN
     go_wp2_with fail
     go_ret
     exact ⟨rfl, cb.trans (b3.mono zb)⟩
end
section
open Go.RowKit Go.Shelf
theorem outNInfoO : (Tryz.prog.info? 111).map (fun i => (i.zero.map (·.cells.size), i.size, i.bytes)) = some (some 3, 3, 32) := by kernel_rfl
def outN (x : Nat × List UInt8) : List Value := [.int .i64 (x.1 : Int), .bool false, .string ⟨x.2.toArray⟩]
def tapsN (es : List (Option Nat)) (l : List (Nat × List UInt8)) : List (Nat × List UInt8) := l.filter fun x => (es.getD x.1 none).isNone
theorem printedS_mem {p : PortD} {k : Nat} {v : Int} {dst src : Vector UInt8 6} {ty : Int} {body : List UInt8} {prio : Int} {x : Nat × List UInt8} (h : x ∈ printedS p k v dst src ty body prio) : x.1 = k := by
 unfold printedS at h
 split at h
 ·
  rw [List.mem_singleton.1 h]
 ·
  cases h
theorem relayedS_mem {s : BrS} {st : List LB} {fr : Nat} {v : Int} {dst src : Vector UInt8 6} {ty : Int} {body : List UInt8} {prio : Int} {x : Nat × List UInt8} (h : x ∈ relayedS s st fr v dst src ty body prio) : x.1 < s.ports.length := by
 unfold relayedS at h
 obtain ⟨i, hi, hx⟩ := List.mem_flatMap.1 h
 unfold relF at hx
 split at hx
 ·
  rw [printedS_mem hx]; exact List.mem_range.1 hi
 ·
  cases hx
theorem comeS_outs (s : BrS) {k : Nat} (hk : k < s.ports.length) (l : List UInt8) (t : TalkD) : (∀ x ∈ (comeS s k l t).2.1, x.1 < s.ports.length) ∧ (comeS s k l t).2.1.length ≤ s.ports.length := by
 unfold comeS
 split
 ·
  exact ⟨fun x h => (by cases h), Nat.zero_le _⟩
 ·
  rename_i d _
  unfold comeD
  split
  ·
   exact ⟨fun x h => (by cases h), Nat.zero_le _⟩
  split
  ·
   exact ⟨fun x h => (by cases h), Nat.zero_le _⟩
  split
  ·
   exact ⟨fun x h => (by cases h), Nat.zero_le _⟩
  dsimp only
  split
  ·
   exact ⟨fun x h => (by cases h), Nat.zero_le _⟩
  split
  ·
   exact ⟨fun x h => by rw [printedS_mem h]; exact hk, Nat.le_trans (printedS_len _ _ _ _ _ _ _ _) (by omega)⟩
  ·
   exact ⟨fun x h => relayedS_mem h, flat_range_len (fun i => relF_len _ _ _ _ _ _ _ _ _ i) _⟩
theorem nSend_down {S : List Nat} {w : World} {N : Nat} {p : NdP} (h : Quiet S w N p) {q : Nat} (hq : q < p.es.length) (hx : p.es[q].isSome = true) (s : List UInt8) :
  Calls Tryz.prog 70 #[.pointer (some ⟨N, 0, none⟩), .int .i64 (q : Int), .string ⟨s.toArray⟩] w fun e w' => e = .returned (.slice none 0 0) ∧ Below w.heap.size w w' := by
 have hU := h.up q hq
 rw [hx] at hU
 have HU := h_ hU
 clear hU h
 go_enter Tryz.func70, Tryz.ntmps70
 go_wp2_with fail
 (with_reducible refine HU.out.mono ?_)
 rintro e w1 ⟨rfl, b1⟩
 go_wp2_with fail
 go_ret
 exact ⟨rfl, b1⟩
section
variable {w : World} {N : Nat} {p : NdP} {A : BrA} {s : BrS}
theorem nOne_any (h : Quiet (p.Q :: A.muts) w N p) (hA : p.B = A.B) (hb : BrT w A s) {K : Nat} (hK : K ≤ 900000) (hg : BrG s K) (hlen : s.ports.length = p.es.length) {q : Nat} (hq : q < p.es.length) (htap : p.es[q] = none) (l : List UInt8) (hl : l.length ≤ 1000000) (t : TalkD) (ht : ∀ d, ethParse l = .ok d → TalkC d.dst d.src d.ty d.body t) :
  Calls Tryz.prog 46 #[.pointer (some ⟨N, 0, none⟩), .agg #[.int .i64 (q : Int), .string ⟨l.toArray⟩]] w fun e w' => (∃ v, e = .returned v ∧ OwnL w' w.heap.size 111 3 v ((tapsN p.es (comeS s q l t).2.1).map outN)) ∧ BelowS w.heap.size A.muts w w' ∧ BrT w' A (comeS s q l t).1 := by
 have hnd := h.nd
 have n32 := h.n32
 have zN := h.ltN
 have HNS := h_ h.nS
 have hqs : q < s.ports.length := by omega
 obtain ⟨houts, hol⟩ := comeS_outs s hqs l t
 have hsub : ∀ W, BelowS w.heap.size A.muts w W → Quiet (p.Q :: A.muts) W N p := fun W hW => h.kept ⟨hW.os, hW.tape, hW.output, hW.size, fun k hk hn => hW.block k hk fun hm => hn (List.mem_cons_of_mem _ hm)⟩
 have HCO := h_ (fun (W : World) (hW : BrT W A s) => rCounts_any W hW)
 have HCM := h_ (fun (W : World) (hW : BrT W A s) => rCome_any W hW hK hg q hqs l hl t ht)
 have HHA := h_ (fun (W : World) (hW : BelowS w.heap.size A.muts w W) (j : Nat) (hj : j < p.es.length) => (hsub W hW).has j hj)
 have HSE := h_ (fun (W : World) (hW : BelowS w.heap.size A.muts w W) (j : Nat) (hj : j < p.es.length) (hx : p.es[j].isSome = true) (x : List UInt8) => nSend_down (hsub W hW) hj hx x)
 have HST := h_ (fun (W : World) (hW : BelowS w.heap.size A.muts w W) => settled_any (hsub W hW))
 have HCE := h_ (fun (W : World) (hW : BelowS w.heap.size A.muts w W) => (hsub W hW).cell hq)
 have HND := h_ (fun (W : World) (hW : BelowS w.heap.size A.muts w W) => (hsub W hW).nd)
 unfold NdP.cells nodeC at hnd HND
 rw [htap] at HCE
 simp only [optP, Option.map_none] at HCE
 obtain ⟨outs, houtsE⟩ : ∃ o, (comeS s q l t).2.1 = o := ⟨_, rfl⟩
 obtain ⟨s', hs'⟩ : ∃ o, (comeS s q l t).1 = o := ⟨_, rfl⟩
 obtain ⟨er, her⟩ : ∃ o, (comeS s q l t).2.2 = o := ⟨_, rfl⟩
 rw [houtsE] at houts hol
 rw [houtsE, hs', her] at HCM
 rw [houtsE, hs']
 have HB := h_ hb
 obtain ⟨n, hn⟩ : ∃ n, p.es.length = n := ⟨_, rfl⟩
 rw [hn] at hnd n32 HND
 have HN := h_ hn
 have HO := h_ houts
 have HLN := h_ hlen
 have hol32 : outs.length ≤ 32 := by omega
 have hqI : (q : Int) < (n : Int) := by omega
 clear h hb hg ht houtsE hs' her hn houts hlen hsub htap hol hl hK
 obtain ⟨id, ma, he, de, ageing, pa, pn, cap, mac, B, spn, eb, ec, qq, es, D⟩ := p
 dsimp only at *
 subst hA
 have hnW := hnd
 go_enter Tryz.func46, Tryz.ntmps46
 obtain ⟨w1, hw1⟩ : ∃ x, w.alloc (.cells #[Value.int .i64 (q : Int), .string ⟨l.toArray⟩] 139) = x := ⟨_, rfl⟩
 have b1 : Below w.heap.size w w1 := by rw [← hw1]; exact ba_
 have rV1 : row w1 w.heap.size = #[Value.int .i64 (q : Int), .string ⟨l.toArray⟩] := by rw [← hw1]; exact row_alloc_at _ _ _ rfl
 have z1 : w1.heap.size = w.heap.size + 1 := by rw [← hw1, alloc_sizeW]
 have hB1 := HB.out.below b1
 have rN1 := HND.out w1 (BelowS.of b1)
 have HC1 := h_ (HCO.out w1 hB1)
 clear hnW hnd
 go_wp2_with fail
 (try rw [hw1])
 (try clear hw1)
 (with_reducible refine HC1.out.mono ?_)
 rintro e w2 ⟨rfl, b2⟩
 have z2 := b2.size
 have B2 : Below w.heap.size w w2 := b1.trans (b2.mono (by omega))
 have rV2 := (row_below b2 (show w.heap.size < w1.heap.size by omega)).trans rV1
 have hB2 := hB1.below b2
 have hfd : ∀ w : World, (Instr.field 179 (.agg #[.int .i64 s.c0, .int .i64 s.c1, .int .i64 s.c2, .int .i64 s.c3, .int .i64 s.c4]) 1).run Tryz.prog w = .ok (.int .i64 s.c1) w := fun _ => by kernel_rfl
 have cN2 : w2.cell? ⟨N, 19, none⟩ = some (.pointer (some ⟨A.B, 0, none⟩)) := by
  have := HND.out w2 (BelowS.of B2)
  rw [cell_of_row' (by rw [this]; simp), this]; simp
 have zN2 : N < w2.heap.size := by omega
 have zV2 : w.heap.size < w2.heap.size := by omega
 have nVm : w.heap.size ∉ A.muts := fun hm => by
  obtain ⟨l1, l2, l3, l4, l5, l6⟩ := HB.out.lts
  have := mut_place hm
  simp only [List.mem_cons, List.not_mem_nil, or_false] at this
  omega
 have nNm : N ∉ A.muts := fun hm => HNS.out (List.mem_cons_of_mem _ hm)
 have HB2 := h_ hB2
 have HZB := h_ (show w.heap.size ≤ w2.heap.size by omega)
 clear b1 b2 z1 z2 rV1 rN1 hB1 hB2 HC1
 obtain ⟨V, hV⟩ : ∃ V, w.heap.size = V := ⟨_, rfl⟩
 rw [hV] at rV2 zV2 nVm
 go_wp2_with fail
 (try rw [hV])
 have hG : GrowP fun W => BelowS w2.heap.size A.muts w2 W ∧ (W.cell? ⟨N, 19, none⟩ = some (.pointer (some ⟨A.B, 0, none⟩)) ∧ N < W.heap.size) := GrowP.and (fun w w' h hb => h.trans ((BelowS.of hb).mono h.size)) (grow_cellQ _ _ _)
 refine rgX_ [(V, #[Value.int .i64 (q : Int), .string ⟨l.toArray⟩])] (fun W => BelowS w2.heap.size A.muts w2 W ∧ (W.cell? ⟨N, 19, none⟩ = some (.pointer (some ⟨A.B, 0, none⟩)) ∧ N < W.heap.size)) hG (⟨BelowS.of (Below.refl _ _), cN2, zN2⟩) (fun hS => ?_)
 refine sp 0 hG hS ?_
 refine sp 1 hG hS ?_
 refine sp 2 hG hS ?_
 refine sp 3 hG hS ?_
 refine sp 4 hG hS ?_
 refine sp 5 hG hS ?_
 refine sp 6 hG hS ?_
 refine sp 7 hG hS ?_
 refine wpAnyR_op1 8 kr_ (fun u hu => ?_)
 refine wpOp_step rfl (fun K hK => ?_)
 go_simp
 have hu2 : Below w2.heap.size w2 u := below_step (Below.drew (Below.refl _ _)) hu
 have zu := hu2.size
 (with_reducible refine (HCM.out _ (HB2.out.below hu2)).mono ?_)
 rintro e u3 ⟨⟨v3, rfl, own3⟩, b3, hB3⟩
 have z3 := b3.size
 have hS : XS [(V, #[Value.int .i64 (q : Int), .string ⟨l.toArray⟩])] (fun W => BelowS w2.heap.size A.muts w2 W ∧ (W.cell? ⟨N, 19, none⟩ = some (.pointer (some ⟨A.B, 0, none⟩)) ∧ N < W.heap.size)) u3 := by
  refine ⟨⟨((b3.row (by omega) nVm).trans (row_below hu2 (by omega))).trans rV2, by omega, trivial⟩, (BelowS.of hu2).trans (b3.mono zu), ?_, by omega⟩
  have := cell_belowN cN2 zN2 hu2
  unfold World.cell? at this ⊢
  rw [b3.block N (by omega) nNm]
  exact this
 refine hK _ _ ⟨hS, ?_⟩
 clear hK K
 (try simp only [Act.put, List.setIfInBounds_toArray, List.set_cons_zero, List.set_cons_succ])
 refine sp 9 hG hS ?_
 refine sp 10 hG hS ?_
 refine sp 11 hG hS ?_
 refine sp 12 hG hS ?_
 refine sp 13 hG hS ?_
 refine wpAnyR_done kr_ (fun w9 bw9 => ?_) _
 have B29 : BelowS w2.heap.size A.muts w2 w9 := hS.2.1.trans ((BelowS.of bw9).mono hS.2.1.size)
 have own9 := own3.below bw9
 have hB9 := hB3.below bw9
 have rV9 := (row_below bw9 (show V < u3.heap.size by omega)).trans hS.1.1
 have BB9 : BelowS w.heap.size A.muts w w9 := (BelowS.of B2).trans (B29.mono HZB.out)
 have z29 := B29.size
 obtain ⟨pa3, pc3, hv3, hel3⟩ := own9.elems
 subst hv3
 have hel := hel3.2
 have HEL := h_ hel
 have HB9 := h_ hB9
 have HBB := h_ BB9
 rw [List.length_map]
 have zV9 : V < w9.heap.size := by omega
 have zN9 : N < w9.heap.size := by omega
 have kw9 : w.heap.size ≤ w9.heap.size := by omega
 have HVW := h_ hV
 clear hS bw9 hu hu2 b3 hB3 own3 own9 hB9 hel3 hel B29 BB9 rV2 cN2 HB2 HCM HCO z29 zu z3 HZB hV
 go_wp2_with fail
 go_loopw [8, 34] (fun u i wr => ∃ j : Nat, j ≤ outs.length ∧ i = .int .i64 j ∧ OwnL wr w9.heap.size 111 3 u ((tapsN es (outs.take j)).map outN) ∧ Below w9.heap.size w9 wr) (fun _ i _ => outs.length - (intOf i).toNat)
 case atStart => exact ⟨0, by omega, rfl, OwnL.nil _ _ _ _, Below.refl _ _⟩
 case round =>
  obtain ⟨j, hj, rfl, hown, cb⟩ := hrel
  have zb := cb.size
  have rVr := (row_below cb zV9).trans rV9
  have hBr : BelowS w.heap.size A.muts w wr := HBB.out.trans ((BelowS.of cb).mono kw9)
  have hlt0 : (tapsN es (outs.take j)).length ≤ j := Nat.le_trans (List.length_filter_le _ _) (by simp; omega)
  have HOW := h_ hown
  clear hown
  by_cases hlt : j < outs.length
  ·
   have hltI : (j : Int) < (outs.length : Int) := by omega
   obtain ⟨⟨po, so⟩, hx⟩ : ∃ x, outs[j] = x := ⟨_, rfl⟩
   have hpo : po < es.length := by have := HO.out outs[j] (List.getElem_mem hlt); rw [hx] at this; have := HLN.out; have := HN.out; dsimp only at *; omega
   obtain ⟨ob, oo, rfl, hob, hra⟩ := HEL.out j (outC outs[j]) (by rw [List.getElem?_map, List.getElem?_eq_getElem hlt]; rfl)
   rw [hx] at hra
   have hld : (loadS 216 (.pointer (some ⟨ob, oo + j * 2, none⟩))).run Tryz.prog wr = .ok (.agg #[Value.int .i64 (po : Int), .string ⟨so.toArray⟩]) wr := run_loadS_at (hra wr (blk_below cb hob)) rfl
   obtain ⟨o, ho⟩ : ∃ o, oo + j * 2 = o := ⟨_, rfl⟩
   rw [ho] at hld
   have htk : tapsN es (outs.take (j + 1)) = tapsN es (outs.take j) ++ (if (es.getD po none).isNone then [(po, so)] else []) := by
    rw [List.take_succ_eq_append_getElem hlt, hx]
    unfold tapsN
    rw [List.filter_append, List.filter_cons]
    rfl
   have hgd : es.getD po none = es[po] := by rw [List.getD_eq_getElem?_getD, List.getElem?_eq_getElem hpo]; rfl
   rw [hgd] at htk
   obtain ⟨w10, hw10⟩ : ∃ y, wr.alloc (.cells #[Value.int .i64 (po : Int), .string ⟨so.toArray⟩] 216) = y := ⟨_, rfl⟩
   have b10 : Below wr.heap.size wr w10 := by rw [← hw10]; exact ba_
   have k10 : wr.heap.size < w10.heap.size := by rw [← hw10, alloc_sizeW]; omega
   have r10 : row w10 wr.heap.size = #[Value.int .i64 (po : Int), .string ⟨so.toArray⟩] := by rw [← hw10]; exact row_alloc_at _ _ _ rfl
   have hB10 := hBr.trans ((BelowS.of b10).mono (show w.heap.size ≤ wr.heap.size by omega))
   have HH := h_ (HHA.out w10 hB10 po hpo)
   have HTK := h_ htk
   clear hra hx hgd htk
   cases hes : es[po] with
   | some y =>
    rw [hes] at HH HTK
    go_wp2_with fail
    (try rw [hw10])
    (try clear hw10)
    (with_reducible refine HH.out.mono ?_)
    rintro e w11 ⟨rfl, b11⟩
    have z11 := b11.size
    have r11 := (row_below b11 k10).trans r10
    have hB11 := hB10.trans ((BelowS.of b11).mono (by omega))
    have HSN := h_ (HSE.out w11 hB11 po hpo (by rw [hes]; rfl) so)
    have b1011 : Below wr.heap.size wr w11 := b10.trans (b11.mono (by omega))
    have HO11 := h_ (HOW.out.below b1011)
    simp only [Option.isSome_some]
    go_wp2_with fail
    (with_reducible refine HSN.out.mono ?_)
    rintro e w12 ⟨rfl, b12⟩
    have z12 := b12.size
    have HO12 := h_ (HO11.out.below b12)
    have k912 : w9.heap.size ≤ w12.heap.size := by omega
    have hlen12 : ((tapsN es (outs.take j)).map outN).length + 0 ≤ 10000 := by rw [List.length_map]; omega
    have HL12 := h_ hlen12
    have honN : ∀ y ∈ ([] : List (List Value)), ones y = true := fun y hy => by cases hy
    clear hlen12
    go_wp2_with (at_builtin; (refine wpList_appendLs rfl rfl Tryz.underlying74 outNInfoO (by decide) (by decide) w9.heap.size _ _ rfl HO12.out w12.heap.size _ _ rfl (OwnL.nil _ _ _ _) honN HL12.out k912 ?_))
    intro v13 w13 hown13 b13
    try rw [List.append_nil] at hown13
    have cb13 := ((cb.trans (b1011.mono zb)).trans (b12.mono (by omega))).trans b13
    have HO13 := h_ hown13
    clear hown13
    go_wp2_with fail
    go_roundw
    case rel => exact ⟨j + 1, by omega, by simp, by rw [HTK.out]; simpa using HO13.out, cb13⟩
    case measure => simp [intOf]; omega
   | none =>
    rw [hes] at HH HTK
    go_wp2_with fail
    (try rw [hw10])
    (try clear hw10)
    (with_reducible refine HH.out.mono ?_)
    rintro e w11 ⟨rfl, b11⟩
    have z11 := b11.size
    have r11 := (row_below b11 k10).trans r10
    have b1011 : Below wr.heap.size wr w11 := b10.trans (b11.mono (by omega))
    have HO11 := h_ (HOW.out.below b1011)
    simp only [Option.isSome_none]
    have k911 : w9.heap.size ≤ w11.heap.size := by omega
    have hlen12 : ((tapsN es (outs.take j)).map outN).length ≤ 10000 := by rw [List.length_map]; omega
    have HL12 := h_ hlen12
    clear hlen12
    go_wp2_with (at_builtin; (refine wpList_appendB rfl rfl Tryz.underlying74 outNInfoO (by decide) (by decide) w9.heap.size _ _ rfl HO11.out [Value.int .i64 (po : Int), .bool false, .string ⟨so.toArray⟩] rfl rfl rfl HL12.out k911 ?_))
    intro v13 w13 hown13 b13 _
    have cb13 := (cb.trans (b1011.mono zb)).trans b13
    have HO13 := h_ hown13
    clear hown13
    go_wp2_with fail
    go_roundw
    case rel => exact ⟨j + 1, by omega, by simp, by rw [HTK.out, List.map_append]; exact HO13.out, cb13⟩
    case measure => simp [intOf]; omega
  ·
   obtain rfl : j = outs.length := by omega
   have hltI : ¬ (outs.length : Int) < (outs.length : Int) := by omega
   rw [List.take_length] at HOW
   have hNr := HND.out wr hBr
   have cN21 : wr.cell? ⟨N, 21, none⟩ = some (.slice (some ⟨eb, 0, none⟩) n ec) := by rw [cell_of_row' (by rw [hNr]; simp), hNr]; simp
   have cE := HCE.out wr hBr
   rw [Nat.zero_add] at cE
   have zEb : eb < wr.heap.size := by
    rcases Nat.lt_or_ge eb wr.heap.size with h1 | h1
    ·
     exact h1
    ·
     simp [World.cell?, Array.getElem?_eq_none h1] at cE
   have zNr : N < wr.heap.size := by omega
   have zVr : V < wr.heap.size := by omega
   clear hNr
   go_wp2_with fail
   have hG : GrowP fun W => Below wr.heap.size wr W ∧ (W.cell? ⟨N, 21, none⟩ = some (.slice (some ⟨eb, 0, none⟩) n ec) ∧ N < W.heap.size) ∧ (W.cell? ⟨eb, q, none⟩ = some (.pointer none) ∧ eb < W.heap.size) := GrowP.and (grow_base wr) (GrowP.and (grow_cellQ _ _ _) (grow_cellQ _ _ _))
   refine rgX_ [(V, #[Value.int .i64 (q : Int), .string ⟨l.toArray⟩])] (fun W => Below wr.heap.size wr W ∧ (W.cell? ⟨N, 21, none⟩ = some (.slice (some ⟨eb, 0, none⟩) n ec) ∧ N < W.heap.size) ∧ (W.cell? ⟨eb, q, none⟩ = some (.pointer none) ∧ eb < W.heap.size)) hG (⟨Below.refl _ _, ⟨cN21, zNr⟩, cE, zEb⟩) (fun hS => ?_)
   refine sp 0 hG hS ?_
   refine sp 1 hG hS ?_
   refine sp 2 hG hS ?_
   refine sp 3 hG hS ?_
   refine sp 4 hG hS ?_
   refine sp 5 hG hS ?_
   refine sp 6 hG hS ?_
   refine sp 7 hG hS ?_
   refine sp 8 hG hS ?_
   refine wpAnyR_done kr_ (fun w14 bw14 => ?_) _
   have b14 : Below wr.heap.size wr w14 := below_step hS.2.1 bw14
   have z14 := b14.size
   have cb14 := cb.trans (b14.mono zb)
   have hB14 := hBr.trans ((BelowS.of b14).mono (show w.heap.size ≤ wr.heap.size by omega))
   have HS14 := h_ (HST.out w14 hB14)
   have HO14 := h_ (HOW.out.below b14)
   clear hS bw14 cN21 cE HOW b14
   go_wp2_with fail
   (with_reducible refine HS14.out.mono ?_)
   rintro e w15 ⟨rfl, b15⟩
   have z15 := b15.size
   have cb15 := cb14.trans (b15.mono (by omega))
   have HO15 := h_ (HO14.out.below b15)
   have k915 : w9.heap.size ≤ w15.heap.size := by omega
   have hlen15 : ((tapsN es outs).map outN).length + 0 ≤ 10000 := by rw [List.length_map]; have : (tapsN es outs).length ≤ outs.length := List.length_filter_le _ _; omega
   have HL15 := h_ hlen15
   have honN : ∀ y ∈ ([] : List (List Value)), ones y = true := fun y hy => by cases hy
   clear hlen15
   go_wp2_with (at_builtin; (refine wpList_appendLs rfl rfl Tryz.underlying74 outNInfoO (by decide) (by decide) w9.heap.size _ _ rfl HO15.out w15.heap.size _ _ rfl (OwnL.nil _ _ _ _) honN HL15.out k915 ?_))
   intro v16 w16 hown16 b16
   try rw [List.append_nil] at hown16
   have cb16 := cb15.trans b16
   have HO16 := h_ hown16
   have HBR := h_ (HB9.out.below cb16)
   clear hown16
   go_wp2_with fail
   go_ret
   exact ⟨⟨_, rfl, HO16.out.lower (by omega)⟩, HBB.out.trans ((BelowS.of cb16).mono kw9), HBR.out⟩
end
end
section
open Go.RowKit Go.Shelf
def waitC (room : Int) (c : Bool) (g cap : Nat) : Array Value := if c then #[.int .i64 room, .slice (some ⟨g, 0, none⟩) 1 cap, .slice none 0 0, .int .i64 0] else #[.int .i64 room, .slice none 0 0, .slice (some ⟨g, 0, none⟩) 1 cap, .int .i64 0]
section
variable {id : Vector UInt8 8} {ma he de ageing : Int} {pa : Option Addr} {n cap : Nat} {mac : Vector UInt8 6} {br spn ea : Option Addr} {ne ec : Nat} {Q : Nat} {sent ch : Int} {w : World} {N : Nat}
theorem nWait_any (hN : row w N = (nodeC id ma he de ageing pa n cap mac br spn ea ne ec (some ⟨Q, 0, none⟩) sent ch).toArray) (room : Int) (hr : 1 ≤ room) (hQ : row w Q = #[.int .i64 room, .slice none 0 0, .slice none 0 0, .int .i64 0]) (port : Int) (s : List UInt8) :
  Calls Tryz.prog 48 #[.pointer (some ⟨N, 0, none⟩), .int .i64 port, .string ⟨s.toArray⟩] w fun e w' => ∃ g cap, e = .returned (.int .i64 0) ∧ row w' Q = waitC room (Lib.hasPrefix s bpduTo.toList) g cap ∧ (∃ rest, row w' g = (Value.int .i64 port :: Value.string ⟨s.toArray⟩ :: rest).toArray) ∧ (1 ≤ cap ∧ w.heap.size ≤ g) ∧ g < w'.heap.size ∧ BelowBut w.heap.size Q w w' := by
 have zN : N < w.heap.size := lt_of_row (i := 0) (by rw [hN]; simp [nodeC])
 have zQ : Q < w.heap.size := lt_of_row (i := 0) (by rw [hQ]; simp)
 have cN : w.cell? ⟨N, 22, none⟩ = some (.pointer (some ⟨Q, 0, none⟩)) := by rw [cell_of_row' (by rw [hN]; simp [nodeC]), hN]; simp [nodeC]
 have nNQ : N ≠ Q := fun e => by
  rw [e, hQ] at hN
  have := congrArg Array.size hN
  simp [nodeC] at this
 have HP := h_ (fun w => Tryz.strings_HasPrefix ⟨s.toArray⟩ ⟨bpduTo.toList.toArray⟩ w)
 obtain ⟨b, hb⟩ : ∃ b, Lib.hasPrefix s bpduTo.toList = b := ⟨_, rfl⟩
 have HP2 := h_ (fun w => (HP.out w).mono fun e w' (h : e = _ ∧ w' = w) => (show e = .returned (.bool b) ∧ Below w.heap.size w w' from ⟨by rw [h.1]; rw [← hb], by rw [h.2]; exact Below.refl _ _⟩))
 rw [hb]
 have hPut : ∀ W, row W Q = #[.int .i64 room, .slice none 0 0, .slice none 0 0, .int .i64 0] → Calls Tryz.prog 84 #[.pointer (some ⟨Q, 0, none⟩), .bool b, .agg #[.int .i64 port, .string ⟨s.toArray⟩]] W fun e w' => ∃ g cap, e = .returned (.int .i64 0) ∧ row w' Q = waitC room b g cap ∧ (∃ rest, row w' g = (Value.int .i64 port :: Value.string ⟨s.toArray⟩ :: rest).toArray) ∧ (1 ≤ cap ∧ W.heap.size ≤ g) ∧ g < w'.heap.size ∧ BelowBut W.heap.size Q W w' := by
  intro W hW
  cases b with
  | true => exact qPut_0 Q room 0 port hr _ s W hW
  | false => exact qPut_1 Q room 0 port hr _ s W hW
 have HPut := h_ hPut
 clear hb HP hPut hN
 go_enter Tryz.func48, Tryz.ntmps48
 go_wp2_with fail
 refine (bTo_any _).mono ?_
 rintro e w1 ⟨rfl, b1⟩
 have z1 := b1.size
 obtain ⟨w2, hw2⟩ : ∃ x, w1.alloc (.cells (u8v bpduTo).toArray 114) = x := ⟨_, rfl⟩
 have b2 : Below w1.heap.size w1 w2 := by rw [← hw2]; exact ba_
 have z2 : w2.heap.size = w1.heap.size + 1 := by rw [← hw2, alloc_sizeW]
 have rT : row w2 w1.heap.size = (u8v bpduTo).toArray := by rw [← hw2]; exact row_alloc_at _ _ _ rfl
 have B2 : Below w.heap.size w w2 := b1.trans (b2.mono z1)
 have hQ2 := (row_below B2 zQ).trans hQ
 have cN2 := cell_belowN cN zN B2
 have zN2 : N < w2.heap.size := by omega
 have zT2 : w1.heap.size < w2.heap.size := by omega
 have nTQ : w1.heap.size ≠ Q := by omega
 clear z2 cN hQ b2
 obtain ⟨T, hT⟩ : ∃ T, w1.heap.size = T := ⟨_, rfl⟩
 rw [hT] at rT zT2 nTQ
 go_wp2_with fail
 (try rw [hw2])
 (try clear hw2)
 (try rw [hT])
 have hG : GrowP fun W => BelowS w2.heap.size [Q] w2 W ∧ (W.cell? ⟨N, 22, none⟩ = some (.pointer (some ⟨Q, 0, none⟩)) ∧ N < W.heap.size) := GrowP.and (fun w w' h hb => h.trans ((BelowS.of hb).mono h.size)) (grow_cellQ _ _ _)
 refine rgX_ [(T, (u8v bpduTo).toArray)] (fun W => BelowS w2.heap.size [Q] w2 W ∧ (W.cell? ⟨N, 22, none⟩ = some (.pointer (some ⟨Q, 0, none⟩)) ∧ N < W.heap.size)) hG (⟨BelowS.of (Below.refl _ _), cN2, zN2⟩) (fun hS => ?_)
 refine sp 0 hG hS ?_
 refine sp 1 hG hS ?_
 refine sp 2 hG hS ?_
 refine sp 3 hG hS ?_
 refine sp 4 hG hS ?_
 refine sp 5 hG hS ?_
 refine sp 6 hG hS ?_
 refine sc 7 (v := ?_) hG hS ?_ ?_
 rotate_left
 ·
  intro w' hS'
  obtain ⟨hS', hX'⟩ := hS'
  simp only [Rws] at hS'
  go_simp
  with_reducible refine (HP2.out _).mono ?_
  rintro e w'' ⟨rfl, hb⟩
  exact ⟨_, rfl, by rfl, hb⟩
 refine sp 8 hG hS ?_
 refine sp 9 hG hS ?_
 refine sp 10 hG hS ?_
 refine wpAnyR_op1 11 kr_ (fun u hu => ?_)
 refine wpOp_step rfl (fun K hK => ?_)
 go_simp
 have hu2 : Below w2.heap.size w2 u := below_step (Below.drew (Below.refl _ _)) hu
 have zu := hu2.size
 (with_reducible refine (HPut.out _ ((row_below hu2 (by omega)).trans hQ2)).mono ?_)
 rintro e u3 ⟨g, cap, rfl, rQ3, hg3, ⟨hcap, gg⟩, zg, b3⟩
 have z3 := b3.size
 have hS : XS [(T, (u8v bpduTo).toArray)] (fun W => BelowS w2.heap.size [Q] w2 W ∧ (W.cell? ⟨N, 22, none⟩ = some (.pointer (some ⟨Q, 0, none⟩)) ∧ N < W.heap.size)) u3 := by
  refine ⟨⟨((row_of_block (b3.block T (by omega) nTQ)).trans (row_below hu2 (by omega))).trans rT, by omega, trivial⟩, (BelowS.of hu2).trans ((BelowS.one b3 (by simp)).mono zu), ?_, by omega⟩
  have := cell_belowN cN2 zN2 hu2
  unfold World.cell? at this ⊢
  rw [b3.block N (by omega) nNQ]
  exact this
 refine hK _ _ ⟨hS, ?_⟩
 clear hK K
 (try simp only [Act.put, List.setIfInBounds_toArray, List.set_cons_zero, List.set_cons_succ])
 refine sp 12 hG hS ?_
 refine wpAnyR_done kr_ (fun w9 bw9 => ?_) _
 have B3 : BelowBut w2.heap.size Q w2 w9 := ((BelowBut.of hu2).trans (b3.mono zu)).trans ((BelowBut.of bw9).mono (by omega))
 have rQ9 := (row_below bw9 (show Q < u3.heap.size by omega)).trans rQ3
 obtain ⟨rest, hg4⟩ := hg3
 have rg9 := (row_below bw9 zg).trans hg4
 have zg9 : g < w9.heap.size := Nat.lt_of_lt_of_le zg bw9.size
 have gg9 : w.heap.size ≤ g := by have := B2.size; omega
 have BB : BelowBut w.heap.size Q w w9 := (BelowBut.of B2).trans (B3.mono B2.size)
 clear hS hu bw9 b3 hu2 rQ3 hg4 rT hQ2 cN2
 go_wp2_with fail
 go_ret
 exact ⟨g, cap, rfl, rQ9, ⟨rest, rg9⟩, ⟨hcap, gg9⟩, zg9, BB⟩
theorem nInject_no (N : Option Addr) (port : Int) (s : List UInt8) (w : World) (a b : Bool) (hab : a = false ∨ b = true) (hH : Calls Tryz.prog 47 #[.pointer N, .int .i64 port] w fun e w' => e = .returned (.tuple #[.bool a, .bool b]) ∧ Below w.heap.size w w') : Calls Tryz.prog 28 #[.pointer N, .int .i64 port, .string ⟨s.toArray⟩] w fun e w' => e = .returned (.int .i64 1) ∧ Below w.heap.size w w' := by
 have HH := h_ hH
 clear hH
 go_enter Tryz.func28, Tryz.ntmps28
 go_wp2_with fail
 (with_reducible refine HH.out.mono ?_)
 rintro e w' ⟨rfl, b1⟩
 cases a with
 | false =>
  go_wp2_with fail
  go_ret
  exact ⟨rfl, b1⟩
 | true =>
  obtain rfl : b = true := by simpa using hab
  go_wp2_with fail
  go_ret
  exact ⟨rfl, b1⟩
theorem nInject_ok (hN : row w N = (nodeC id ma he de ageing pa n cap mac br spn ea ne ec (some ⟨Q, 0, none⟩) sent ch).toArray) (room : Int) (hr : 1 ≤ room) (hQ : row w Q = #[.int .i64 room, .slice none 0 0, .slice none 0 0, .int .i64 0]) (port : Int) (s : List UInt8)
  (hH : Calls Tryz.prog 47 #[.pointer (some ⟨N, 0, none⟩), .int .i64 port] w fun e w' => e = .returned (.tuple #[.bool true, .bool false]) ∧ Below w.heap.size w w') :
  Calls Tryz.prog 28 #[.pointer (some ⟨N, 0, none⟩), .int .i64 port, .string ⟨s.toArray⟩] w fun e w' => ∃ g cap, e = .returned (.int .i64 0) ∧ row w' Q = waitC room (Lib.hasPrefix s bpduTo.toList) g cap ∧ (∃ rest, row w' g = (Value.int .i64 port :: Value.string ⟨s.toArray⟩ :: rest).toArray) ∧ (1 ≤ cap ∧ w.heap.size ≤ g) ∧ g < w'.heap.size ∧ BelowBut w.heap.size Q w w' := by
 have zN : N < w.heap.size := lt_of_row (i := 0) (by rw [hN]; simp [nodeC])
 have zQ : Q < w.heap.size := lt_of_row (i := 0) (by rw [hQ]; simp)
 have HH := h_ hH
 have HW := h_ (fun (W : World) (hW : Below w.heap.size w W) => nWait_any ((row_below hW zN).trans hN) room hr ((row_below hW zQ).trans hQ) port s)
 clear hH
 go_enter Tryz.func28, Tryz.ntmps28
 go_wp2_with fail
 (with_reducible refine HH.out.mono ?_)
 rintro e w1 ⟨rfl, b1⟩
 go_wp2_with fail
 (with_reducible refine (HW.out _ b1).mono ?_)
 rintro e w2 ⟨g, c2, rfl, rQ, hg, ⟨hcap, gg⟩, zg, b2⟩
 go_wp2_with fail
 go_ret
 exact ⟨g, c2, rfl, rQ, hg, ⟨hcap, Nat.le_trans b1.size gg⟩, zg, (BelowBut.of b1).trans (b2.mono b1.size)⟩
end
end
section
open Go.RowKit Go.Shelf
theorem qTake_wait (Q g cap : Nat) (hcap : 1 ≤ cap) (room port : Int) (c : Bool) (s : List UInt8) (rest : List Value) (w : World) (hQ : row w Q = waitC room c g cap) (hg : row w g = (Value.int .i64 port :: Value.string ⟨s.toArray⟩ :: rest).toArray) (hgQ : g ≠ Q) :
  Calls Tryz.prog 45 #[.pointer (some ⟨Q, 0, none⟩)] w fun e w' => (∃ a0 c0 a1 c1, row w' Q = #[.int .i64 room, .slice a0 0 c0, .slice a1 0 c1, .int .i64 0]) ∧ e = .returned (.tuple #[.agg #[.int .i64 port, .string ⟨s.toArray⟩], .bool c, .bool true]) ∧ BelowBut w.heap.size Q w w' := by
 cases c with
 | true =>
  refine (qTake_0 Q g cap hcap room 0 port _ s rest w hQ hg hgQ).mono ?_
  rintro e w' ⟨a, h1, h2, h3⟩
  exact ⟨⟨_, _, _, _, h2⟩, h1, h3⟩
 | false =>
  refine (qTake_1 Q g cap hcap room 0 port _ _ s rest w hQ hg hgQ).mono ?_
  rintro e w' ⟨a, h1, h2, h3⟩
  exact ⟨⟨_, _, _, _, h2⟩, h1, h3⟩
section
variable {w : World} {N : Nat} {p : NdP} {A : BrA} {s : BrS}
theorem nRun_one (h : Quiet (p.Q :: A.muts) w N p) (hA : p.B = A.B) (hex : p.Q ∈ A.ex) (hnb : ∀ b ∈ [A.B, A.SB, A.LT, A.LM, A.HT, A.HM], b ≠ p.Q) (hb : BrT w A s) {K : Nat} (hK : K ≤ 900000) (hg : BrG s K) (hlen : s.ports.length = p.es.length) {q : Nat} (hq : q < p.es.length) (htap : p.es[q] = none) (l : List UInt8) (hl : l.length ≤ 1000000) (t : TalkD) (ht : ∀ d, ethParse l = .ok d → TalkC d.dst d.src d.ty d.body t)
  (room : Int) (c : Bool) (g cap : Nat) (hcap : 1 ≤ cap) (hQ : row w p.Q = waitC room c g cap) (rest : List Value) (hgr : row w g = (Value.int .i64 (q : Int) :: Value.string ⟨l.toArray⟩ :: rest).toArray) (hgQ : g ≠ p.Q) :
  Calls Tryz.prog 26 #[.pointer (some ⟨N, 0, none⟩)] w fun e w' => (∃ v, e = .returned v ∧ OwnL w' w.heap.size 111 3 v ((tapsN p.es (comeS s q l t).2.1).map outN)) ∧ BelowS w.heap.size (p.Q :: A.muts) w w' ∧ BrT w' A (comeS s q l t).1 ∧ (∃ a0 c0 a1 c1, row w' p.Q = #[.int .i64 room, .slice a0 0 c0, .slice a1 0 c1, .int .i64 0]) := by
 have zN := h.ltN
 have zQ : p.Q < w.heap.size := lt_of_row (i := 0) (by rw [hQ]; unfold waitC; split <;> simp)
 have nQm : p.Q ∉ A.muts := fun hm => hnb _ (mut_place hm) rfl
 have HTK := h_ (qTake_wait p.Q g cap hcap room (q : Int) c l rest w hQ hgr hgQ)
 have HKP := h_ (fun (W : World) (hW : BelowS w.heap.size (p.Q :: A.muts) w W) => h.kept hW)
 have HOB := h_ (fun (W : World) (hW : BelowBut w.heap.size p.Q w W) => hb.otherB hex hnb hW)
 have HON := h_ (fun (W : World) (hW : Quiet (p.Q :: A.muts) W N p) (hB : BrT W A s) => nOne_any hW hA hB hK hg hlen hq htap l hl t ht)
 have hol : (tapsN p.es (comeS s q l t).2.1).length ≤ 32 := Nat.le_trans (List.length_filter_le _ _) (Nat.le_trans (comeS_outs s (by omega) l t).2 (by rw [hlen]; exact h.n32))
 have hnd := h.nd
 unfold NdP.cells nodeC at hnd
 obtain ⟨outs, houts⟩ : ∃ o, tapsN p.es (comeS s q l t).2.1 = o := ⟨_, rfl⟩
 obtain ⟨s', hs'⟩ : ∃ o, (comeS s q l t).1 = o := ⟨_, rfl⟩
 rw [houts] at hol HON
 rw [hs'] at HON
 rw [houts, hs']
 have HOL := h_ hol
 clear h hb hg ht houts hs' hlen htap hl hK hA hex hnb hQ hgr hol
 obtain ⟨id, ma, he, de, ageing, pa, pn, pcap, mac, B, spn, eb, ec, qq, es, D⟩ := p
 dsimp only at *
 go_enter Tryz.func26, Tryz.ntmps26
 go_wp2_with fail
 refine wp_loop_rounds 2 ?_
 rw [rounds_succ]
 go_wp2_with fail
 (with_reducible refine HTK.out.mono ?_)
 rintro e w1 ⟨hQ1, rfl, b1⟩
 have z1 := b1.size
 have hS1 : BelowS w.heap.size (qq :: A.muts) w w1 := BelowS.one b1 (by simp)
 have hB1 := HOB.out w1 b1
 obtain ⟨w2, hw2⟩ : ∃ x, w1.alloc (.cells #[Value.int .i64 (q : Int), .string ⟨l.toArray⟩] 139) = x := ⟨_, rfl⟩
 have b2 : Below w1.heap.size w1 w2 := by rw [← hw2]; exact ba_
 have rV2 : row w2 w1.heap.size = #[Value.int .i64 (q : Int), .string ⟨l.toArray⟩] := by rw [← hw2]; exact row_alloc_at _ _ _ rfl
 have zV2 : w1.heap.size < w2.heap.size := by rw [← hw2, alloc_sizeW]; omega
 have hS2 : BelowS w.heap.size (qq :: A.muts) w w2 := hS1.trans ((BelowS.of b2).mono z1)
 have hQu2 := HKP.out w2 hS2
 have hB2 := hB1.below b2
 obtain ⟨a0, c0, a1, c1, hQ1'⟩ := hQ1
 have zQ1 : qq < w1.heap.size := by omega
 have rQ2 := (row_below b2 zQ1).trans hQ1'
 have HO2 := h_ (HON.out w2 hQu2 hB2)
 have HS2 := h_ hS2
 have zQ2 : qq < w2.heap.size := by omega
 clear hQ1' hB1 hS1 hS2 hQu2 hB2 b2
 go_wp2_with fail
 (try rw [hw2])
 (try clear hw2)
 (with_reducible refine HO2.out.mono ?_)
 rintro e w3 ⟨⟨v3, rfl, own3⟩, b3, hB3⟩
 have z3 := b3.size
 have rQ3 := (b3.row zQ2 nQm).trans rQ2
 have kw3 : w.heap.size ≤ w3.heap.size := by omega
 have HO3 := h_ own3
 have hS3 : BelowS w.heap.size (qq :: A.muts) w w3 := HS2.out.trans (BelowS.mono ⟨b3.os, b3.tape, b3.output, b3.size, fun k hk hn => b3.block k hk fun hm => hn (List.mem_cons_of_mem _ hm)⟩ (by omega))
 have HS3 := h_ hS3
 have HB3 := h_ hB3
 have honN : ∀ y ∈ outs.map outN, ones y = true := by
  intro y hy
  obtain ⟨x, _, rfl⟩ := List.mem_map.1 hy
  rfl
 have HL3 := h_ (show ([] : List (List Value)).length + (outs.map outN).length ≤ 10000 by simp; have := HOL.out; omega)
 clear own3 b3 hS3 hB3 HO2 rV2 rQ2
 go_wp2_with (at_builtin; (refine wpList_appendLs rfl rfl Tryz.underlying74 outNInfoO (by decide) (by decide) w3.heap.size _ _ rfl (OwnL.nil _ _ _ _) w2.heap.size _ _ rfl HO3.out honN HL3.out (Nat.le_refl _) ?_))
 intro v4 w4 own4 b4
 try rw [List.nil_append] at own4
 have z4 := b4.size
 have own4' := own4.lower kw3
 have hS4 := HS3.out.trans ((BelowS.of b4).mono kw3)
 have hB4 := HB3.out.below b4
 have rQ4 := (row_below b4 (show qq < w3.heap.size by omega)).trans rQ3
 have rN4 := (HKP.out w4 hS4).nd
 unfold NdP.cells nodeC at rN4
 dsimp only at rN4
 have HO4 := h_ own4'
 have HS4 := h_ hS4
 have HB4 := h_ hB4
 have HTN := h_ (fun W (hQ : row W qq = #[.int .i64 room, .slice a0 0 c0, .slice a1 0 c1, .int .i64 0]) => qTake_none qq room 0 a0 a1 c0 c1 W hQ)
 clear own4 own4' hS4 hB4 b4 rQ3 hnd
 go_wp2_with fail
 rw [rounds_succ]
 go_wp2_with fail
 (with_reducible refine (HTN.out _ rQ4).mono ?_)
 rintro e w5 ⟨rfl, b5⟩
 have HO5 := h_ (HO4.out.below b5)
 have HB5 := h_ (HB4.out.below b5)
 have rQ5 := (row_below b5 (show qq < w4.heap.size by omega)).trans rQ4
 obtain ⟨w6, hw6⟩ : ∃ x, w5.alloc (.cells #[Value.int .i64 0, .string ⟨#[]⟩] 139) = x := ⟨_, rfl⟩
 have b6 : Below w5.heap.size w5 w6 := by rw [← hw6]; exact ba_
 have r6 : row w6 w5.heap.size = #[Value.int .i64 0, .string ⟨#[]⟩] := by rw [← hw6]; exact row_alloc_at _ _ _ rfl
 have hs6 := setRow_row_eq r6 (by simp)
 have rQ6 := (row_below b6 (show qq < w5.heap.size by have := b5.size; omega)).trans rQ5
 have HO6 := h_ (HO5.out.below b6)
 have HB6 := h_ (HB5.out.below b6)
 have HS6 := h_ (HS4.out.trans ((BelowS.of (b5.trans (b6.mono b5.size))).mono (show w.heap.size ≤ w4.heap.size by omega)))
 clear rQ5 rQ4 b5 b6 HO5 HB5 HO4 HB4
 go_wp2_with fail
 (try rw [hw6])
 (try clear hw6)
 go_ret
 exact ⟨⟨_, rfl, HO6.out⟩, HS6.out, HB6.out, _, _, _, _, rQ6⟩
end
end
section
open Go.RowKit Go.Shelf
theorem range_of_row {W : World} {b : Nat} {pre l post : List Value} (h : row W b = (pre ++ (l ++ post)).toArray) : W.rangeAt b pre.length l := fun j v hj => by
 have hjl := (List.getElem?_eq_some_iff.1 hj).1
 have hs : pre.length + j < (row W b).size := by rw [h]; simp; omega
 rw [cell_of_row' hs, h, List.getElem?_toArray, List.getElem?_append_right (by omega), Nat.add_sub_cancel_left, List.getElem?_append_left hjl]
 exact hj
theorem talk_plain (dst src : Vector UInt8 6) (body : List UInt8) : TalkC dst src 2048 body ⟨[], mac0, false, none⟩ :=
 ⟨hAnn_other _ _ _ 2048 rfl rfl, fun _ w T v => hAns_other _ _ _ w v T 2048 rfl rfl, fun _ _ h => by cases h⟩
def dN : Vector UInt8 6 := #v[2, 0, 0, 0, 0, 9]
def sN : Vector UInt8 6 := #v[2, 0, 0, 0, 0, 1]
def lineN : List UInt8 := ethS dN sN 2048 [120] (-1) 0
theorem lineN_eq : lineN = [2, 0, 0, 0, 0, 9, 2, 0, 0, 0, 0, 1, 8, 0, 120] := by rfl
theorem lineN_eq' : (⟨lineN.toArray⟩ : ByteArray) = ⟨#[2, 0, 0, 0, 0, 9, 2, 0, 0, 0, 0, 1, 8, 0, 120]⟩ := by rw [lineN_eq]
theorem lineN_parse : ethParse lineN = .ok ⟨dN, sN, 2048, [120], -1, 0⟩ := ethParse_print dN sN 2048 [120] (-1) 0 (by decide)
end
end Go.Proofs.YtfopoijikdmiaaaGreatDoor
