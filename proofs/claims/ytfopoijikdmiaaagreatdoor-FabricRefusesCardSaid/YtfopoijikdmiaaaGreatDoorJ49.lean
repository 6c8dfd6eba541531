/- Texts of this proof, merged: FabN, FabM, FabP, FabK, FabO. -/
import Derived.Test.YtfopoijikdmiaaaGreatDoorJ39
import Derived.Test.YtfopoijikdmiaaaGreatDoorJ41
import Derived.Test.YtfopoijikdmiaaaGreatDoorTlkJ
import Derived.Test.YtfopoijikdmiaaaGreatDoorJ13
set_option linter.unusedSimpArgs false
set_option linter.unusedVariables false
set_option maxHeartbeats 8000000
set_option maxRecDepth 20000
namespace Go.Proofs.YtfopoijikdmiaaaGreatDoor
section
open Go.RowKit Go.Shelf
structure NodeF (B0 : Nat) (w : World) (N : Nat) (c : ConfX) (room : Int) (p : NdP) (A : BrA) (s : BrS) : Prop where
 q : Quiet (p.Q :: A.muts) w N p
 pB : p.B = A.B
 ex : p.Q ∈ A.ex
 nQ : ∀ b ∈ [A.B, A.SB, A.LT, A.LM, A.HT, A.HM], b ≠ p.Q
 br : BrT w A s
 g : BrG s 0
 len : s.ports.length = p.es.length
 es : p.es.length = c.ps.length
 link : ∀ (i : Nat) (x : PortX), c.ps[i]? = some x → ∃ e : Option Nat, p.es[i]? = some e ∧ e.isSome = x.link
 rQ : row w p.Q = #[.int .i64 room, .slice none 0 0, .slice none 0 0, .int .i64 0]
 lo : ∀ b ∈ p.Q :: A.muts, B0 ≤ b
 room1 : 1 ≤ room
def brX (c : ConfX) : BrS := sJ c.ageing (c.ps.map (·.p)) (tapF c.ps) c.ps.length
theorem NodeT.nodeF {w0 w : World} {N Q : Nat} {id : Vector UInt8 8} {ma he de ageing : Int} {pa : Option Addr} {cap : Nat} {ps : List PortX} {mac : Vector UInt8 6} {r k p d room : Int} {A : BrA} {sp ea : Option Addr} {ec : Nat} {es : List (Option Nat)}
  (h : NodeT w0 w N Q id ma he de ageing pa cap ps mac r k p d room A sp ea ec es ps.length) (hr : 1 ≤ room) (c : ConfX) (hc : c.ps = ps) (hag : c.ageing = ageing) : ∃ pp, NodeF w0.heap.size w N c room pp A (brX c) ∧ pp.Q = Q := by
 obtain ⟨eb, D, rfl, hel, hes, hQ⟩ := h.quiet
 subst hc hag
 refine ⟨⟨id, ma, he, de, c.ageing, pa, c.ps.length, cap, mac, A.B, sp, eb, ec, Q, es, D⟩, ⟨hQ, rfl, h.ex.2, fun b hb e => ?_, h.br, sJ_good _ _ _ _ h.ok, ?_, hel, hes, h.rQ, fun b hb => ?_, hr⟩, rfl⟩
 ·
  replace e : b = Q := e
  have := (h.lo b hb).2; omega
 ·
  simp [brX, sJ, newS, hel]
 ·
  rcases List.mem_cons.1 hb with rfl | hb
  ·
   exact h.gQ
  ·
   have := (h.lo b (mut_place hb)).2; have := h.gQ; omega
theorem ElemsOff.agree {S : List Nat} {w w' : World} {a : Option Addr} {sz : Nat} {l : List (List Value)} (h : ElemsOff S w a sz l) (hz : w.heap.size ≤ w'.heap.size) (hb : ∀ k, k ∉ S → k < w.heap.size → w'.heap[k]? = w.heap[k]?) : ElemsOff S w' a sz l := by
 refine ⟨h.1, fun i x hx => ?_⟩
 obtain ⟨b, off, e, hl, hn, hr⟩ := h.2 i x hx
 exact ⟨b, off, e, Nat.lt_of_lt_of_le hl hz, hn, fun W hW => hr W (hW.trans (hb b hn hl))⟩
theorem PortsOff.agree {S : List Nat} {w w' : World} {pa : Option Addr} {ps : List PortD} (h : PortsOff S w pa ps) (hz : w.heap.size ≤ w'.heap.size) (hb : ∀ k, k ∉ S → k < w.heap.size → w'.heap[k]? = w.heap[k]?) : PortsOff S w' pa ps := by
 refine ⟨h.1, fun i p hp => ?_⟩
 obtain ⟨b, off, ta, cap, e, hl, hn, hr, ht⟩ := h.2 i p hp
 exact ⟨b, off, ta, cap, e, Nat.lt_of_lt_of_le hl hz, hn, fun W hW => hr W (hW.trans (hb b hn hl)), ht.agree hz hb⟩
theorem BrT.agree {w w' : World} {A : BrA} {s : BrS} (h : BrT w A s) (hz : w.heap.size ≤ w'.heap.size) (hp : ∀ b ∈ [A.B, A.SB, A.LT, A.LM, A.HT, A.HM], w'.heap[b]? = w.heap[b]?) (hb : ∀ k, k ∉ A.offs → k < w.heap.size → w'.heap[k]? = w.heap[k]?) : BrT w' A s :=
 ⟨(row_of_block (hp A.B (by simp))).trans h.rB, (row_of_block (hp A.SB (by simp))).trans h.rS,
  ⟨(row_of_block (hp A.LT (by simp))).trans h.ler.row, (mapOk_of_block (hp A.LM (by simp))).2 h.ler.ok, (mapL_of_block (hp A.LM (by simp))).trans h.ler.map⟩,
  ⟨(row_of_block (hp A.HT (by simp))).trans h.hush.row, (mapOk_of_block (hp A.HM (by simp))).2 h.hush.ok, (mapL_of_block (hp A.HM (by simp))).trans h.hush.map⟩, h.lims.agree hz hb, h.ports.agree hz hb, h.dist, h.lenS, h.pos⟩
theorem NodeT.agree {w0 w : World} {N Q : Nat} {id : Vector UInt8 8} {ma he de ageing : Int} {pa : Option Addr} {cap : Nat} {ps : List PortX} {mac : Vector UInt8 6} {r k p d room : Int} {A : BrA} {sp ea : Option Addr} {ec : Nat} {es : List (Option Nat)} {j : Nat}
  (h : NodeT w0 w N Q id ma he de ageing pa cap ps mac r k p d room A sp ea ec es j) (w' : World) (hz : w.heap.size ≤ w'.heap.size) (ha : ∀ k, w0.heap.size ≤ k → k < w.heap.size → w'.heap[k]? = w.heap[k]?) :
  ∃ w1 : World, w1.heap.size = w0.heap.size ∧ NodeT w1 w' N Q id ma he de ageing pa cap ps mac r k p d room A sp ea ec es j := by
 have hz0 := h.low.size
 have hs : (w'.heap.extract 0 w0.heap.size).size = w0.heap.size := by simp; omega
 have hpl : ∀ b ∈ [A.B, A.SB, A.LT, A.LM, A.HT, A.HM], w'.heap[b]? = w.heap[b]? := fun b hb => by
  have h1 := (h.lo b hb).1
  have h2 := h.gN
  obtain ⟨l1, l2, l3, l4, l5, l6⟩ := h.br.lts
  refine ha b (by omega) ?_
  simp only [List.mem_cons, List.not_mem_nil, or_false] at hb
  rcases hb with rfl | rfl | rfl | rfl | rfl | rfl <;> assumption
 refine ⟨{ w' with heap := w'.heap.extract 0 w0.heap.size }, hs, ?_⟩
 refine ⟨(row_of_block (ha N h.gN h.ltN)).trans h.rN, (row_of_block (ha Q h.gQ h.ltQ)).trans h.rQ, ?_, ?_, h.ne, h.ex, h.lo, h.br.agree hz hpl fun x hx hl => ha x ?_ hl, h.ok, ?_, ?_, ⟨rfl, rfl, rfl, ?_, fun x hx => ?_⟩, ?_⟩
 ·
  show (w'.heap.extract 0 w0.heap.size).size ≤ N
  rw [hs]; exact h.gN
 ·
  show (w'.heap.extract 0 w0.heap.size).size ≤ Q
  rw [hs]; exact h.gQ
 ·
  rcases Nat.lt_or_ge x w0.heap.size with h1 | h1
  ·
   exact absurd (List.mem_append_right _ (h.exl x h1)) hx
  ·
   exact h1
 ·
  obtain ⟨B, wC, h1, h2, h3, h4, h5, h6, h7⟩ := h.own
  exact ⟨B, wC, h1, h2, h3, h4, by omega, fun X hX hX2 => (ha X (by have := h.gN; omega) (by omega)).trans (h6 X hX hX2), h7⟩
 ·
  rcases h.span with e | ⟨D, sb, s, e1, e2, e3, e4, e5, e6⟩
  ·
   exact .inl e
  ·
   exact .inr ⟨D, sb, s, e1, e2.kept fun x hx hl => ha x (by have := h.gN; omega) hl, e3, e4, e5, e6⟩
 ·
  show (w'.heap.extract 0 w0.heap.size).size ≤ w'.heap.size
  rw [hs]; omega
 ·
  replace hx : x < (w'.heap.extract 0 w0.heap.size).size := hx
  rw [hs] at hx
  show w'.heap[x]? = (w'.heap.extract 0 w0.heap.size)[x]?
  rw [Array.getElem?_extract]
  simp [hx]
  try omega
 ·
  intro x hx
  replace hx : x < (w'.heap.extract 0 w0.heap.size).size := hx
  rw [hs] at hx
  exact h.exl x hx
def NodeM (w0 w : World) (N : Nat) (c : ConfX) (r k p d room : Int) : Prop := 1 ≤ room ∧ ∃ Q mac A sp ea ec es pa cap, NodeT w0 w N Q c.id c.ma c.he c.de c.ageing pa cap c.ps mac r k p d room A sp ea ec es c.ps.length
theorem NodeM.node {w0 w : World} {N : Nat} {c : ConfX} {r k p d room : Int} (h : NodeM w0 w N c r k p d room) (w' : World) (hz : w.heap.size ≤ w'.heap.size) (ha : ∀ k, w0.heap.size ≤ k → k < w.heap.size → w'.heap[k]? = w.heap[k]?) :
  ∃ pp A, NodeF w0.heap.size w' N c room pp A (brX c) ∧ ∀ b ∈ pp.Q :: A.muts, b < w.heap.size := by
 obtain ⟨hr, Q, mac, A, sp, ea, ec, es, pa, cap, hT⟩ := h
 obtain ⟨w1, e1, hT1⟩ := hT.agree w' hz ha
 obtain ⟨pp, hF, hQ⟩ := hT1.nodeF hr c rfl rfl
 rw [e1] at hF
 refine ⟨pp, A, hF, fun b hb => ?_⟩
 rcases List.mem_cons.1 hb with rfl | hb
 ·
  rw [hQ]; exact hT.ltQ
 ·
  obtain ⟨l1, l2, l3, l4, l5, l6⟩ := hT.br.lts
  have hb2 := mut_place hb
  simp only [List.mem_cons, List.not_mem_nil, or_false] at hb2
  rcases hb2 with rfl | rfl | rfl | rfl | rfl | rfl <;> assumption
theorem talk_line (l : List UInt8) (hl : l.length ≤ 10000) : ∃ t : TalkD, ∀ d, ethParse l = .ok d → TalkC d.dst d.src d.ty d.body t := by
 cases hp : ethParse l with
 | error n => exact ⟨⟨[], mac0, false, none⟩, fun d hd => by cases hd⟩
 | ok d =>
  obtain ⟨t, ht⟩ := talk_prog d.dst d.src d.ty d.body (by have := (ethParse_prio hp).2.2; omega)
  exact ⟨t, fun d' hd' => by cases hd'; exact ht⟩
end
section
open Go.RowKit Go.Shelf
theorem conf_load {W : World} {b o : Nat} {pa : Option Addr} {cap : Nat} {c : ConfX} (h : W.rangeAt b o (confXV pa cap c)) : (loadS 106 (.pointer (some ⟨b, o, none⟩))).run Tryz.prog W = .ok (.agg (confXV pa cap c).toArray) W := run_loadS_at h (by simp [confXV, confV])
def madeOk (r k p d room : Int) (c : ConfX) : Bool := newOkN room r k p d c.ma c.he c.de c.ageing c.ps
section
variable (ca : Option Addr) (cc : Nat) (cs : List ConfX) (wa : Option Addr) (nw wc : Nat) (r k p d room : Int) (seed : List UInt8) (w : World) (h : ConfsAt w ca cs)
include h
theorem made_any (i : Nat) (hi : i < cs.length) (hps : cs[i].ps.length ≤ 1000) :
  Calls Tryz.prog 32 #[.agg (planV ca cs.length cc wa nw wc r k p d room seed).toArray, .int .i64 (i : Int)] w fun e w' => ((madeOk r k p d room cs[i] = false ∧ e = .returned (.tuple #[.pointer none, .int .i64 1])) ∨ (madeOk r k p d room cs[i] = true ∧ ∃ N, e = .returned (.tuple #[.pointer (some ⟨N, 0, none⟩), .int .i64 0]) ∧ ∃ w0 w2, w.heap.size ≤ w0.heap.size ∧ NodeM w0 w2 N cs[i] r k p d room ∧ Below w2.heap.size w2 w')) ∧ Below w.heap.size w w' := by
 obtain ⟨b, off, pa, cap, rfl, hb, hr⟩ := h.get hi
 obtain ⟨c, hc⟩ : ∃ c, cs[i] = c := ⟨_, rfl⟩
 rw [hc] at hr hps ⊢
 have hiI : (i : Int) < (cs.length : Int) := by omega
 have HR := h_ hr
 have HI := h_ hi
 clear hr h hc hi
 unfold planV
 go_enter Tryz.func32, Tryz.ntmps32
 obtain ⟨w1, hw1⟩ : ∃ x, w.alloc (.cells #[Value.slice (some ⟨b, off, none⟩) cs.length cc, .slice wa nw wc, .int .i64 r, .int .i64 k, .int .i64 p, .int .i64 d, .int .i64 room, .string ⟨seed.toArray⟩] 48) = x := ⟨_, rfl⟩
 have b1 : Below w.heap.size w w1 := by rw [← hw1]; exact ba_
 have r1 : row w1 w.heap.size = #[Value.slice (some ⟨b, off, none⟩) cs.length cc, .slice wa nw wc, .int .i64 r, .int .i64 k, .int .i64 p, .int .i64 d, .int .i64 room, .string ⟨seed.toArray⟩] := by rw [← hw1]; exact row_alloc_at _ _ _ rfl
 have k1 : w.heap.size < w1.heap.size := by rw [← hw1, alloc_sizeW]; omega
 obtain ⟨o, ho⟩ : ∃ o, off + i * 13 = o := ⟨_, rfl⟩
 have hld : ∀ W, Below w1.heap.size w1 W → (loadS 106 (.pointer (some ⟨b, o, none⟩))).run Tryz.prog W = .ok (.agg (confXV pa cap c).toArray) W := fun W hW => by
  rw [← ho]
  exact conf_load (HR.out W (b1.trans (hW.mono b1.size))).1
 unfold confXV confV at hld
 go_wp2_with fail
 (try rw [hw1])
 (try clear hw1)
 obtain ⟨PB, hPB⟩ : ∃ PB, w.heap.size = PB := ⟨_, rfl⟩
 have HPB := h_ hPB
 rw [hPB] at r1 k1
 (try rw [hPB])
 clear hPB
 have hG : GrowP fun W => Below w1.heap.size w1 W := grow_base w1
 refine rgX_ [(PB, #[Value.slice (some ⟨b, off, none⟩) cs.length cc, .slice wa nw wc, .int .i64 r, .int .i64 k, .int .i64 p, .int .i64 d, .int .i64 room, .string ⟨seed.toArray⟩])] (fun W => Below w1.heap.size w1 W) hG (Below.refl _ _) (fun hS => ?_)
 refine sp 0 hG hS ?_
 refine sp 1 hG hS ?_
 refine sp 2 hG hS ?_
 refine sp 3 hG hS ?_
 refine sp 4 hG hS ?_
 refine sp 5 hG hS ?_
 refine sp 6 hG hS ?_
 refine sp 7 hG hS ?_
 refine sp 8 hG hS ?_
 refine wpAnyR_op1 9 kr_ (fun u hu => ?_)
 refine wpOp_step rfl (fun K hK => ?_)
 go_simp
 have hu2 : Below w1.heap.size w1 u := below_step (Below.drew (Below.refl _ _)) hu
 have zu := hu2.size
 have Bu : Below w.heap.size w u := b1.trans (hu2.mono b1.size)
 have hN := nodeNew_any c.id c.ma c.he c.de c.ageing pa cap c.ps r k p d room u (HR.out u Bu).2 hps
 unfold confV at hN
 (with_reducible refine hN.mono ?_)
 rintro e y (⟨hnb, rfl, bN⟩ | ⟨hnb, N, rfl, Q, mac, A, spx, ea, ec, es, hT⟩)
 ·
  have hS : XS [(PB, #[Value.slice (some ⟨b, off, none⟩) cs.length cc, .slice wa nw wc, .int .i64 r, .int .i64 k, .int .i64 p, .int .i64 d, .int .i64 room, .string ⟨seed.toArray⟩])] (fun W => Below w1.heap.size w1 W) y := XS.grow hG _ _ ⟨⟨(row_below hu2 k1).trans r1, by omega, trivial⟩, hu2⟩ bN
  refine hK _ _ ⟨hS, ?_⟩
  clear hK K
  (try simp only [Act.put, List.setIfInBounds_toArray, List.set_cons_zero, List.set_cons_succ])
  refine sp 10 hG hS ?_
  refine sp 11 hG hS ?_
  refine sp 12 hG hS ?_
  refine sp 13 hG hS ?_
  refine wpAnyR_done kr_ (fun y3 by3 => ?_) _
  have BY : Below w.heap.size w y3 := Bu.trans ((bN.trans (by3.mono bN.size)).mono Bu.size)
  clear hS by3 bN hN hu hu2 r1
  go_wp2_with fail
  go_ret2
  exact ⟨.inl ⟨hnb, rfl⟩, BY⟩
 ·
  have bN := hT.low
  have hroom : 1 ≤ room := by
   unfold newOkN at hnb
   simp only [Bool.and_eq_true, decide_eq_true_eq] at hnb
   exact hnb.1.1.1
  have hM : NodeM u y N c r k p d room := ⟨hroom, Q, mac, A, spx, ea, ec, es, pa, cap, hT⟩
  have HM := h_ hM
  have hS : XS [(PB, #[Value.slice (some ⟨b, off, none⟩) cs.length cc, .slice wa nw wc, .int .i64 r, .int .i64 k, .int .i64 p, .int .i64 d, .int .i64 room, .string ⟨seed.toArray⟩])] (fun W => Below w1.heap.size w1 W) y := XS.grow hG _ _ ⟨⟨(row_below hu2 k1).trans r1, by omega, trivial⟩, hu2⟩ bN
  refine hK _ _ ⟨hS, ?_⟩
  clear hK K
  (try simp only [Act.put, List.setIfInBounds_toArray, List.set_cons_zero, List.set_cons_succ])
  refine sp 10 hG hS ?_
  refine sp 11 hG hS ?_
  refine sp 12 hG hS ?_
  refine sp 13 hG hS ?_
  refine wpAnyR_done kr_ (fun y3 by3 => ?_) _
  have BY : Below w.heap.size w y3 := Bu.trans ((bN.trans (by3.mono bN.size)).mono Bu.size)
  have by3' := h_ by3
  have zBu := Bu.size
  clear hS by3 bN hN hu hu2 r1 hT hM
  go_wp2_with fail
  go_ret2
  exact ⟨.inr ⟨hnb, N, rfl, u, y, zBu, HM.out, by3'.out⟩, BY⟩
end
end
section
open Go.RowKit Go.Shelf
def portOf (cs : List ConfX) (n i : Int) : Option PortX :=
 if 0 ≤ n ∧ 0 ≤ i then (match cs[n.toNat]? with
  | some c => c.ps[i.toNat]?
  | none => none) else none
def x0 : PortX := ⟨⟨0, [], 0, 0⟩, false, 0, false, Vector.replicate 32 0⟩
theorem portOf_none {cs : List ConfX} {n i : Int} (h : n < 0 ∨ (cs.length : Int) ≤ n ∨ i < 0) : portOf cs n i = none := by
 unfold portOf
 by_cases h0 : 0 ≤ n ∧ 0 ≤ i
 ·
  rw [if_pos h0, List.getElem?_eq_none (by omega)]
 ·
  rw [if_neg h0]
theorem portOf_at {cs : List ConfX} {n i : Nat} (hn : n < cs.length) : portOf cs (n : Int) (i : Int) = cs[n].ps[i]? := by
 unfold portOf
 rw [if_pos ⟨by omega, by omega⟩, Int.toNat_natCast, Int.toNat_natCast, List.getElem?_eq_getElem hn]
theorem cport_load {W : World} {b o : Nat} {ta : Option Addr} {cap : Nat} {x : PortX} (h : W.rangeAt b o (portXV ta cap x)) : (loadS 137 (.pointer (some ⟨b, o, none⟩))).run Tryz.prog W = .ok (.agg (portXV ta cap x).toArray) W := run_loadS_at h (by simp [portXV])
section
variable (ca : Option Addr) (cc : Nat) (cs : List ConfX) (wa : Option Addr) (nw wc : Nat) (r k p d room : Int) (seed : List UInt8) (w : World) (h : ConfsAt w ca cs)
include h
theorem port_no (n i : Int) (hn : n < 0 ∨ (cs.length : Int) ≤ n ∨ i < 0) :
  Calls Tryz.prog 62 #[.agg (planV ca cs.length cc wa nw wc r k p d room seed).toArray, .agg #[.int .i64 n, .int .i64 i]] w fun e w' => e = .returned (.tuple #[.agg (portXV none 0 x0).toArray, .bool false]) ∧ Below w.heap.size w w' := by
 have hcs : decide (n < 0) = true ∨ (decide (n < 0) = false ∧ decide ((cs.length : Int) ≤ n) = true) ∨ (decide (n < 0) = false ∧ decide ((cs.length : Int) ≤ n) = false ∧ decide (i < 0) = true) := by
  by_cases h0 : n < 0
  ·
   exact .inl (decide_eq_true h0)
  ·
   by_cases h1 : (cs.length : Int) ≤ n
   ·
    exact .inr (.inl ⟨decide_eq_false h0, decide_eq_true h1⟩)
   ·
    exact .inr (.inr ⟨decide_eq_false h0, decide_eq_false h1, decide_eq_true (by omega)⟩)
 clear hn
 have hm := h.len
 have hmI : (cs.length : Int) ≤ 9223372036854775807 := by unfold maxLen at hm; omega
 clear hm
 unfold planV
 go_enter Tryz.func62, Tryz.ntmps62
 obtain ⟨w1, hw1⟩ : ∃ x, ((w.alloc (.cells #[Value.slice ca cs.length cc, .slice wa nw wc, .int .i64 r, .int .i64 k, .int .i64 p, .int .i64 d, .int .i64 room, .string ⟨seed.toArray⟩] 48)).alloc (.cells #[.int .i64 n, .int .i64 i] 84)).alloc (.cells (Value.int .i64 0 :: Value.slice none 0 0 :: (zeros 2 (Value.int .i64 0) ++ Value.bool false :: Value.int .i64 0 :: Value.bool false :: zeros 32 (Value.int .u8 0))).toArray 137) = x := ⟨_, rfl⟩
 have b1 : Below w.heap.size w w1 := by rw [← hw1]; exact Below.alloc (Below.alloc (ba_) (by simp) _) (by simp; omega) _
 have z1 : w1.heap.size = w.heap.size + 3 := by rw [← hw1, alloc_sizeW, alloc_sizeW, alloc_sizeW]
 have rP1 : row w1 w.heap.size = #[Value.slice ca cs.length cc, .slice wa nw wc, .int .i64 r, .int .i64 k, .int .i64 p, .int .i64 d, .int .i64 room, .string ⟨seed.toArray⟩] := by rw [← hw1]; simp [go_sem]
 have rX1 : row w1 (w.heap.size + 1) = #[.int .i64 n, .int .i64 i] := by rw [← hw1]; simp [go_sem]
 have rR1 : row w1 (w.heap.size + 1 + 1) = (Value.int .i64 0 :: Value.slice none 0 0 :: (zeros 2 (Value.int .i64 0) ++ Value.bool false :: Value.int .i64 0 :: Value.bool false :: zeros 32 (Value.int .u8 0))).toArray := by rw [← hw1]; simp [go_sem]
 have q0 : w.heap.size + 1 + 1 < w1.heap.size := by omega
 clear z1
 go_wp2_with fail
 (try rw [hw1])
 (try clear hw1)
 obtain ⟨C, hC⟩ : ∃ C, w.heap.size = C := ⟨_, rfl⟩
 have HC := h_ hC
 rw [hC] at rP1 rX1 rR1 q0
 (try rw [hC])
 clear hC
 have hG : GrowP fun W => Below w1.heap.size w1 W := grow_base w1
 rcases hcs with e1 | ⟨e1, e2⟩ | ⟨e1, e2, e3⟩
 ·
  refine rgX_ [(C, #[Value.slice ca cs.length cc, .slice wa nw wc, .int .i64 r, .int .i64 k, .int .i64 p, .int .i64 d, .int .i64 room, .string ⟨seed.toArray⟩]), (C + 1, #[.int .i64 n, .int .i64 i])] (fun W => Below w1.heap.size w1 W) hG (Below.refl _ _) (fun hS => ?_)
  refine sp 0 hG hS ?_
  refine sp 1 hG hS ?_
  refine sp 2 hG hS ?_
  refine sp 3 hG hS ?_
  refine sn 4 hG hS ?_
  refine sn 5 hG hS ?_
  refine sn 6 hG hS ?_
  refine sn 7 hG hS ?_
  refine sn 8 hG hS ?_
  refine sn 9 hG hS ?_
  refine sp 10 hG hS ?_
  refine sp 11 hG hS ?_
  refine sn 12 hG hS ?_
  refine sn 13 hG hS ?_
  refine sn 14 hG hS ?_
  refine sp 15 hG hS ?_
  refine sp 16 hG hS ?_
  refine sn 17 hG hS ?_
  refine sn 18 hG hS ?_
  refine sn 19 hG hS ?_
  refine sn 20 hG hS ?_
  refine sn 21 hG hS ?_
  refine sn 22 hG hS ?_
  refine sn 23 hG hS ?_
  refine sn 24 hG hS ?_
  refine sn 25 hG hS ?_
  refine sn 26 hG hS ?_
  refine sn 27 hG hS ?_
  refine sp 28 hG hS ?_
  refine wpAnyR_done kr_ (fun w2 bw2 => ?_) _
  have b2 : Below w1.heap.size w1 w2 := below_step hS.2 bw2
  have rR2 := (row_below b2 q0).trans rR1
  have B2 : Below w.heap.size w w2 := b1.trans (b2.mono b1.size)
  have hCw : w.heap.size ≤ C + 1 + 1 := by have := HC.out; omega
  have hs := setRow_row_eq rR2 (by simp)
  clear hS bw2 b2
  go_wp2_with fail
  (try simp only [Exit.inBlock, Exit.then])
  refine bodyPost_ret (results_2 rfl (resOk_row rfl ?_) resOk_tmp) rfl ?_
  ·
   first | (rw [rR2]; simp) | simp [go_sem, rR2]
  exact ⟨by first | (rw [rR2]; rfl) | (simp [go_sem, rR2]; done), B2⟩
 ·
  refine rgX_ [(C, #[Value.slice ca cs.length cc, .slice wa nw wc, .int .i64 r, .int .i64 k, .int .i64 p, .int .i64 d, .int .i64 room, .string ⟨seed.toArray⟩]), (C + 1, #[.int .i64 n, .int .i64 i])] (fun W => Below w1.heap.size w1 W) hG (Below.refl _ _) (fun hS => ?_)
  refine sp 0 hG hS ?_
  refine sp 1 hG hS ?_
  refine sp 2 hG hS ?_
  refine sp 3 hG hS ?_
  refine sp 4 hG hS ?_
  refine sp 5 hG hS ?_
  refine sp 6 hG hS ?_
  refine sp 7 hG hS ?_
  refine sp 8 hG hS ?_
  refine sp 9 hG hS ?_
  refine sp 10 hG hS ?_
  refine sp 11 hG hS ?_
  refine sn 12 hG hS ?_
  refine sn 13 hG hS ?_
  refine sn 14 hG hS ?_
  refine sp 15 hG hS ?_
  refine sp 16 hG hS ?_
  refine sn 17 hG hS ?_
  refine sn 18 hG hS ?_
  refine sn 19 hG hS ?_
  refine sn 20 hG hS ?_
  refine sn 21 hG hS ?_
  refine sn 22 hG hS ?_
  refine sn 23 hG hS ?_
  refine sn 24 hG hS ?_
  refine sn 25 hG hS ?_
  refine sn 26 hG hS ?_
  refine sn 27 hG hS ?_
  refine sp 28 hG hS ?_
  refine wpAnyR_done kr_ (fun w2 bw2 => ?_) _
  have b2 : Below w1.heap.size w1 w2 := below_step hS.2 bw2
  have rR2 := (row_below b2 q0).trans rR1
  have B2 : Below w.heap.size w w2 := b1.trans (b2.mono b1.size)
  have hCw : w.heap.size ≤ C + 1 + 1 := by have := HC.out; omega
  have hs := setRow_row_eq rR2 (by simp)
  clear hS bw2 b2
  go_wp2_with fail
  (try simp only [Exit.inBlock, Exit.then])
  refine bodyPost_ret (results_2 rfl (resOk_row rfl ?_) resOk_tmp) rfl ?_
  ·
   first | (rw [rR2]; simp) | simp [go_sem, rR2]
  exact ⟨by first | (rw [rR2]; rfl) | (simp [go_sem, rR2]; done), B2⟩
 ·
  refine rgX_ [(C, #[Value.slice ca cs.length cc, .slice wa nw wc, .int .i64 r, .int .i64 k, .int .i64 p, .int .i64 d, .int .i64 room, .string ⟨seed.toArray⟩]), (C + 1, #[.int .i64 n, .int .i64 i])] (fun W => Below w1.heap.size w1 W) hG (Below.refl _ _) (fun hS => ?_)
  refine sp 0 hG hS ?_
  refine sp 1 hG hS ?_
  refine sp 2 hG hS ?_
  refine sp 3 hG hS ?_
  refine sp 4 hG hS ?_
  refine sp 5 hG hS ?_
  refine sp 6 hG hS ?_
  refine sp 7 hG hS ?_
  refine sp 8 hG hS ?_
  refine sp 9 hG hS ?_
  refine sp 10 hG hS ?_
  refine sp 11 hG hS ?_
  refine sp 12 hG hS ?_
  refine sp 13 hG hS ?_
  refine sp 14 hG hS ?_
  refine sp 15 hG hS ?_
  refine sp 16 hG hS ?_
  refine sn 17 hG hS ?_
  refine sn 18 hG hS ?_
  refine sn 19 hG hS ?_
  refine sn 20 hG hS ?_
  refine sn 21 hG hS ?_
  refine sn 22 hG hS ?_
  refine sn 23 hG hS ?_
  refine sn 24 hG hS ?_
  refine sn 25 hG hS ?_
  refine sn 26 hG hS ?_
  refine sn 27 hG hS ?_
  refine sp 28 hG hS ?_
  refine wpAnyR_done kr_ (fun w2 bw2 => ?_) _
  have b2 : Below w1.heap.size w1 w2 := below_step hS.2 bw2
  have rR2 := (row_below b2 q0).trans rR1
  have B2 : Below w.heap.size w w2 := b1.trans (b2.mono b1.size)
  have hCw : w.heap.size ≤ C + 1 + 1 := by have := HC.out; omega
  have hs := setRow_row_eq rR2 (by simp)
  clear hS bw2 b2
  go_wp2_with fail
  (try simp only [Exit.inBlock, Exit.then])
  refine bodyPost_ret (results_2 rfl (resOk_row rfl ?_) resOk_tmp) rfl ?_
  ·
   first | (rw [rR2]; simp) | simp [go_sem, rR2]
  exact ⟨by first | (rw [rR2]; rfl) | (simp [go_sem, rR2]; done), B2⟩
theorem port_hi (n i : Nat) (hn : n < cs.length) (hi : cs[n].ps.length ≤ i) :
  Calls Tryz.prog 62 #[.agg (planV ca cs.length cc wa nw wc r k p d room seed).toArray, .agg #[.int .i64 (n : Int), .int .i64 (i : Int)]] w fun e w' => e = .returned (.tuple #[.agg (portXV none 0 x0).toArray, .bool false]) ∧ Below w.heap.size w w' := by
 obtain ⟨b, off, pa, cap, rfl, hb, hr⟩ := h.get hn
 obtain ⟨c, hc⟩ : ∃ c, cs[n] = c := ⟨_, rfl⟩
 rw [hc] at hr hi
 have hnI : (n : Int) < (cs.length : Int) := by omega
 have e1 : decide ((n : Int) < 0) = false := decide_eq_false (by omega)
 have e2 : decide ((cs.length : Int) ≤ (n : Int)) = false := decide_eq_false (by omega)
 have e3 : decide ((i : Int) < 0) = false := decide_eq_false (by omega)
 have e4 : decide ((c.ps.length : Int) ≤ (i : Int)) = true := decide_eq_true (by omega)
 have e5 : decide (cs.length ≤ n) = false := decide_eq_false (by omega)
 have e6 : decide (c.ps.length ≤ i) = true := decide_eq_true (by omega)
 have hm := h.len
 have hmI : (cs.length : Int) ≤ 9223372036854775807 := by unfold maxLen at hm; omega
 clear hm
 unfold planV
 go_enter Tryz.func62, Tryz.ntmps62
 obtain ⟨w1, hw1⟩ : ∃ x, ((w.alloc (.cells #[Value.slice (some ⟨b, off, none⟩) cs.length cc, .slice wa nw wc, .int .i64 r, .int .i64 k, .int .i64 p, .int .i64 d, .int .i64 room, .string ⟨seed.toArray⟩] 48)).alloc (.cells #[.int .i64 (n : Int), .int .i64 (i : Int)] 84)).alloc (.cells (Value.int .i64 0 :: Value.slice none 0 0 :: (zeros 2 (Value.int .i64 0) ++ Value.bool false :: Value.int .i64 0 :: Value.bool false :: zeros 32 (Value.int .u8 0))).toArray 137) = x := ⟨_, rfl⟩
 have b1 : Below w.heap.size w w1 := by rw [← hw1]; exact Below.alloc (Below.alloc (ba_) (by simp) _) (by simp; omega) _
 have z1 : w1.heap.size = w.heap.size + 3 := by rw [← hw1, alloc_sizeW, alloc_sizeW, alloc_sizeW]
 have rP1 : row w1 w.heap.size = #[Value.slice (some ⟨b, off, none⟩) cs.length cc, .slice wa nw wc, .int .i64 r, .int .i64 k, .int .i64 p, .int .i64 d, .int .i64 room, .string ⟨seed.toArray⟩] := by rw [← hw1]; simp [go_sem]
 have rX1 : row w1 (w.heap.size + 1) = #[.int .i64 (n : Int), .int .i64 (i : Int)] := by rw [← hw1]; simp [go_sem]
 have rR1 : row w1 (w.heap.size + 1 + 1) = (Value.int .i64 0 :: Value.slice none 0 0 :: (zeros 2 (Value.int .i64 0) ++ Value.bool false :: Value.int .i64 0 :: Value.bool false :: zeros 32 (Value.int .u8 0))).toArray := by rw [← hw1]; simp [go_sem]
 have q0 : w.heap.size + 1 + 1 < w1.heap.size := by omega
 clear z1
 go_wp2_with fail
 (try rw [hw1])
 (try clear hw1)
 obtain ⟨C, hC⟩ : ∃ C, w.heap.size = C := ⟨_, rfl⟩
 have HC := h_ hC
 rw [hC] at rP1 rX1 rR1 q0
 (try rw [hC])
 clear hC
 have hG : GrowP fun W => Below w1.heap.size w1 W := grow_base w1
 obtain ⟨o, ho⟩ : ∃ o, off + n * 13 = o := ⟨_, rfl⟩
 have hps : ∀ W, Below w1.heap.size w1 W → W.cell? ⟨b, o + 12, none⟩ = some (.slice pa c.ps.length cap) := fun W hW => by
  rw [← ho]
  exact (hr W (b1.trans (hW.mono b1.size))).1 12 _ (by simp [confXV, confV, u8v_length])
 refine rgX_ [(C, #[Value.slice (some ⟨b, off, none⟩) cs.length cc, .slice wa nw wc, .int .i64 r, .int .i64 k, .int .i64 p, .int .i64 d, .int .i64 room, .string ⟨seed.toArray⟩]), (C + 1, #[.int .i64 (n : Int), .int .i64 (i : Int)])] (fun W => Below w1.heap.size w1 W) hG (Below.refl _ _) (fun hS => ?_)
 refine sp 0 hG hS ?_
 refine sp 1 hG hS ?_
 refine sp 2 hG hS ?_
 refine sp 3 hG hS ?_
 refine sp 4 hG hS ?_
 refine sp 5 hG hS ?_
 refine sp 6 hG hS ?_
 refine sp 7 hG hS ?_
 refine sp 8 hG hS ?_
 refine sp 9 hG hS ?_
 refine sp 10 hG hS ?_
 refine sp 11 hG hS ?_
 refine sp 12 hG hS ?_
 refine sp 13 hG hS ?_
 refine sp 14 hG hS ?_
 refine sp 15 hG hS ?_
 refine sp 16 hG hS ?_
 refine sp 17 hG hS ?_
 refine sp 18 hG hS ?_
 refine sp 19 hG hS ?_
 refine sp 20 hG hS ?_
 refine sp 21 hG hS ?_
 refine sp 22 hG hS ?_
 refine sp 23 hG hS ?_
 refine sp 24 hG hS ?_
 refine sp 25 hG hS ?_
 refine sp 26 hG hS ?_
 refine sp 27 hG hS ?_
 refine sp 28 hG hS ?_
 refine wpAnyR_done kr_ (fun w2 bw2 => ?_) _
 have b2 : Below w1.heap.size w1 w2 := below_step hS.2 bw2
 have rR2 := (row_below b2 q0).trans rR1
 have B2 : Below w.heap.size w w2 := b1.trans (b2.mono b1.size)
 have hCw : w.heap.size ≤ C + 1 + 1 := by have := HC.out; omega
 have hs := setRow_row_eq rR2 (by simp)
 clear hS bw2 b2
 go_wp2_with fail
 (try simp only [Exit.inBlock, Exit.then])
 refine bodyPost_ret (results_2 rfl (resOk_row rfl ?_) resOk_tmp) rfl ?_
 ·
  first | (rw [rR2]; simp) | simp [go_sem, rR2]
 exact ⟨by first | (rw [rR2]; rfl) | (simp [go_sem, rR2]; done), B2⟩
theorem port_at (n i : Nat) (hn : n < cs.length) (hi : i < cs[n].ps.length) :
  Calls Tryz.prog 62 #[.agg (planV ca cs.length cc wa nw wc r k p d room seed).toArray, .agg #[.int .i64 (n : Int), .int .i64 (i : Int)]] w fun e w' => (∃ ta tc, e = .returned (.tuple #[.agg (portXV ta tc cs[n].ps[i]).toArray, .bool true])) ∧ Below w.heap.size w w' := by
 obtain ⟨b, off, pa, cap, rfl, hb, hr⟩ := h.get hn
 obtain ⟨c, hc⟩ : ∃ c, cs[n] = c := ⟨_, rfl⟩
 rw [hc] at hr
 have hi0 := hi
 simp only [hc] at hi
 have hnI : (n : Int) < (cs.length : Int) := by omega
 have e1 : decide ((n : Int) < 0) = false := decide_eq_false (by omega)
 have e2 : decide ((cs.length : Int) ≤ (n : Int)) = false := decide_eq_false (by omega)
 have e3 : decide ((i : Int) < 0) = false := decide_eq_false (by omega)
 have e4 : decide ((c.ps.length : Int) ≤ (i : Int)) = false := decide_eq_false (by omega)
 have e5 : decide (cs.length ≤ n) = false := decide_eq_false (by omega)
 have e6 : decide (c.ps.length ≤ i) = false := decide_eq_false (by omega)
 have hiI : (i : Int) < (c.ps.length : Int) := by omega
 obtain ⟨x, hx⟩ : ∃ x, c.ps[i] = x := ⟨_, rfl⟩
 have hxx : cs[n].ps[i] = x := by simp only [hc, hx]
 have hpx := fun W (hW : Below w.heap.size w W) => (hr W hW).2
 obtain ⟨pb, po, ta, tc, rfl, hpb, hrd⟩ := (hpx w (Below.refl _ _)).get hi
 rw [hx] at hrd
 rw [hxx]
 have hm := h.len
 have hmI : (cs.length : Int) ≤ 9223372036854775807 := by unfold maxLen at hm; omega
 clear hm
 unfold planV
 go_enter Tryz.func62, Tryz.ntmps62
 obtain ⟨w1, hw1⟩ : ∃ x, ((w.alloc (.cells #[Value.slice (some ⟨b, off, none⟩) cs.length cc, .slice wa nw wc, .int .i64 r, .int .i64 k, .int .i64 p, .int .i64 d, .int .i64 room, .string ⟨seed.toArray⟩] 48)).alloc (.cells #[.int .i64 (n : Int), .int .i64 (i : Int)] 84)).alloc (.cells (Value.int .i64 0 :: Value.slice none 0 0 :: (zeros 2 (Value.int .i64 0) ++ Value.bool false :: Value.int .i64 0 :: Value.bool false :: zeros 32 (Value.int .u8 0))).toArray 137) = x := ⟨_, rfl⟩
 have b1 : Below w.heap.size w w1 := by rw [← hw1]; exact Below.alloc (Below.alloc (ba_) (by simp) _) (by simp; omega) _
 have z1 : w1.heap.size = w.heap.size + 3 := by rw [← hw1, alloc_sizeW, alloc_sizeW, alloc_sizeW]
 have rP1 : row w1 w.heap.size = #[Value.slice (some ⟨b, off, none⟩) cs.length cc, .slice wa nw wc, .int .i64 r, .int .i64 k, .int .i64 p, .int .i64 d, .int .i64 room, .string ⟨seed.toArray⟩] := by rw [← hw1]; simp [go_sem]
 have rX1 : row w1 (w.heap.size + 1) = #[.int .i64 (n : Int), .int .i64 (i : Int)] := by rw [← hw1]; simp [go_sem]
 have rR1 : row w1 (w.heap.size + 1 + 1) = (Value.int .i64 0 :: Value.slice none 0 0 :: (zeros 2 (Value.int .i64 0) ++ Value.bool false :: Value.int .i64 0 :: Value.bool false :: zeros 32 (Value.int .u8 0))).toArray := by rw [← hw1]; simp [go_sem]
 have q0 : w.heap.size + 1 + 1 < w1.heap.size := by omega
 clear z1
 go_wp2_with fail
 (try rw [hw1])
 (try clear hw1)
 obtain ⟨C, hC⟩ : ∃ C, w.heap.size = C := ⟨_, rfl⟩
 have HC := h_ hC
 rw [hC] at rP1 rX1 rR1 q0
 (try rw [hC])
 clear hC
 have hG : GrowP fun W => Below w1.heap.size w1 W := grow_base w1
 obtain ⟨o, ho⟩ : ∃ o, off + n * 13 = o := ⟨_, rfl⟩
 have hps : ∀ W, Below w1.heap.size w1 W → W.cell? ⟨b, o + 12, none⟩ = some (.slice (some ⟨pb, po, none⟩) c.ps.length cap) := fun W hW => by
  rw [← ho]
  exact (hr W (b1.trans (hW.mono b1.size))).1 12 _ (by simp [confXV, confV, u8v_length])
 obtain ⟨po2, hpo⟩ : ∃ q, po + i * 39 = q := ⟨_, rfl⟩
 have hpl : ∀ W, BelowS w1.heap.size [C + 1 + 1] w1 W → (loadS 137 (.pointer (some ⟨pb, po2, none⟩))).run Tryz.prog W = .ok (.agg (Value.int .i64 x.p.native :: Value.slice ta x.p.tagged.length tc :: Value.int .i64 x.p.hor :: Value.int .i64 x.p.lim :: Value.bool x.link :: Value.int .i64 x.rate :: Value.bool x.greets :: u8v x.psk).toArray) W := fun W hW => by
  rw [← hpo]
  exact cport_load (hrd W (BelowS.of (b1.trans ((hW.mono b1.size).below (Nat.le_refl _) (fun x hx => by have := HC.out; rw [List.mem_singleton.1 hx]; omega))))).1
 have hps2 : ∀ W, BelowS w1.heap.size [C + 1 + 1] w1 W → W.cell? ⟨b, o + 12, none⟩ = some (.slice (some ⟨pb, po, none⟩) c.ps.length cap) := fun W hW => by
  rw [← ho]
  exact (hr W (b1.trans ((hW.mono b1.size).below (Nat.le_refl _) (fun x hx => by have := HC.out; rw [List.mem_singleton.1 hx]; omega)))).1 12 _ (by simp [confXV, confV, u8v_length])
 refine rgX_ [(C, #[Value.slice (some ⟨b, off, none⟩) cs.length cc, .slice wa nw wc, .int .i64 r, .int .i64 k, .int .i64 p, .int .i64 d, .int .i64 room, .string ⟨seed.toArray⟩]), (C + 1, #[.int .i64 (n : Int), .int .i64 (i : Int)])] (fun W => Below w1.heap.size w1 W) hG (Below.refl _ _) (fun hS => ?_)
 refine sp 0 hG hS ?_
 refine sp 1 hG hS ?_
 refine sp 2 hG hS ?_
 refine sp 3 hG hS ?_
 refine sp 4 hG hS ?_
 refine sp 5 hG hS ?_
 refine sp 6 hG hS ?_
 refine sp 7 hG hS ?_
 refine sp 8 hG hS ?_
 refine sp 9 hG hS ?_
 refine sp 10 hG hS ?_
 refine sp 11 hG hS ?_
 refine sp 12 hG hS ?_
 refine sp 13 hG hS ?_
 refine sp 14 hG hS ?_
 refine sp 15 hG hS ?_
 refine sp 16 hG hS ?_
 refine sp 17 hG hS ?_
 refine sp 18 hG hS ?_
 refine sp 19 hG hS ?_
 refine sp 20 hG hS ?_
 refine sp 21 hG hS ?_
 refine sp 22 hG hS ?_
 refine sp 23 hG hS ?_
 refine sp 24 hG hS ?_
 refine sp 25 hG hS ?_
 refine sp 26 hG hS ?_
 refine sp 27 hG hS ?_
 refine sp 28 hG hS ?_
 refine wpAnyR_done kr_ (fun w2 bw2 => ?_) _
 have b2 : Below w1.heap.size w1 w2 := below_step hS.2 bw2
 have z2 := b2.size
 have rR2 := (row_below b2 q0).trans rR1
 have rP2 := (row_below b2 (by omega)).trans rP1
 have rX2 := (row_below b2 (by omega)).trans rX1
 clear hS bw2 hps hG
 have b12 : BelowS w1.heap.size [C + 1 + 1] w1 w2 := BelowS.of b2
 clear b2
 go_wp2_with fail
 have hG : GrowP fun W => BelowS w1.heap.size [C + 1 + 1] w1 W := fun w w' h hb => h.trans ((BelowS.of hb).mono h.size)
 refine rgX_ [(C, #[Value.slice (some ⟨b, off, none⟩) cs.length cc, .slice wa nw wc, .int .i64 r, .int .i64 k, .int .i64 p, .int .i64 d, .int .i64 room, .string ⟨seed.toArray⟩]), (C + 1, #[.int .i64 (n : Int), .int .i64 (i : Int)])] (fun W => BelowS w1.heap.size [C + 1 + 1] w1 W) hG (b12) (fun hS => ?_)
 refine sp 0 hG hS ?_
 refine sp 1 hG hS ?_
 refine sp 2 hG hS ?_
 refine sp 3 hG hS ?_
 refine sp 4 hG hS ?_
 refine sp 5 hG hS ?_
 refine sp 6 hG hS ?_
 refine sp 7 hG hS ?_
 refine sp 8 hG hS ?_
 refine sp 9 hG hS ?_
 refine sp 10 hG hS ?_
 refine wpAnyR_op1 11 kr_ (fun u hu => ?_)
 refine wpOp_step rfl (fun K hK => ?_)
 have hu2 : Below w2.heap.size w2 u := below_step (Below.drew (Below.refl _ _)) hu
 have zu := hu2.size
 have rRu := (row_below hu2 (show C + 1 + 1 < w2.heap.size by omega)).trans rR2
 obtain ⟨u2, hu3⟩ : ∃ y, u.setRow (C + 1 + 1) (Value.int .i64 x.p.native :: Value.slice ta x.p.tagged.length tc :: Value.int .i64 x.p.hor :: Value.int .i64 x.p.lim :: Value.bool x.link :: Value.int .i64 x.rate :: Value.bool x.greets :: u8v x.psk).toArray = y := ⟨_, rfl⟩
 have rR3 : row u2 (C + 1 + 1) = (Value.int .i64 x.p.native :: Value.slice ta x.p.tagged.length tc :: Value.int .i64 x.p.hor :: Value.int .i64 x.p.lim :: Value.bool x.link :: Value.int .i64 x.rate :: Value.bool x.greets :: u8v x.psk).toArray := by rw [← hu3]; exact row_setRow_same (by rw [rRu]; simp) (by rw [rRu]; simp)
 have bS : BelowS w1.heap.size [C + 1 + 1] w1 u2 := by rw [← hu3]; exact (b12.trans ((BelowS.of hu2).mono (by omega))).trans (BelowS.set _ _ (by simp))
 have zu2 : u2.heap.size = u.heap.size := by rw [← hu3, setRow_size]
 have rPu : row u2 C = #[Value.slice (some ⟨b, off, none⟩) cs.length cc, .slice wa nw wc, .int .i64 r, .int .i64 k, .int .i64 p, .int .i64 d, .int .i64 room, .string ⟨seed.toArray⟩] := by rw [← hu3, row_setRow_other _ _ _ (by omega)]; exact (row_below hu2 (by omega)).trans rP2
 have rXu : row u2 (C + 1) = #[.int .i64 (n : Int), .int .i64 (i : Int)] := by rw [← hu3, row_setRow_other _ _ _ (by omega)]; exact (row_below hu2 (by omega)).trans rX2
 have hxo : ones (Value.int .i64 x.p.native :: Value.slice ta x.p.tagged.length tc :: Value.int .i64 x.p.hor :: Value.int .i64 x.p.lim :: Value.bool x.link :: Value.int .i64 x.rate :: Value.bool x.greets :: u8v x.psk) = true := by simp
 go_simp
 (try rw [hu3])
 have hS : XS [(C, #[Value.slice (some ⟨b, off, none⟩) cs.length cc, .slice wa nw wc, .int .i64 r, .int .i64 k, .int .i64 p, .int .i64 d, .int .i64 room, .string ⟨seed.toArray⟩]), (C + 1, #[.int .i64 (n : Int), .int .i64 (i : Int)])] (fun W => BelowS w1.heap.size [C + 1 + 1] w1 W) u2 := ⟨⟨rPu, by omega, rXu, by omega, trivial⟩, bS⟩
 refine hK _ _ ⟨hS, ?_⟩
 clear hK K hu3
 (try simp only [Act.put, List.setIfInBounds_toArray, List.set_cons_zero, List.set_cons_succ])
 refine sp 12 hG hS ?_
 refine wpAnyR_done kr_ (fun w9 bw9 => ?_) _
 have rR9 := (row_below bw9 (show C + 1 + 1 < u2.heap.size by omega)).trans rR3
 have B9 : Below w.heap.size w w9 := b1.trans (((bS.trans ((BelowS.of bw9).mono (by omega))).mono b1.size).below (Nat.le_refl _) (fun x hx => by have := HC.out; rw [List.mem_singleton.1 hx]; omega))
 clear hS bw9 hu hu2 bS b12 rR3
 go_wp2_with fail
 (try simp only [Exit.inBlock, Exit.then])
 refine bodyPost_ret (results_2 rfl (resOk_row rfl ?_) resOk_tmp) rfl ?_
 ·
  first | (rw [rR9]; simp) | simp [go_sem, rR9]
 exact ⟨⟨ta, tc, by first | (rw [rR9]; rfl) | (simp [go_sem, rR9]; rfl)⟩, B9⟩
end
end
section
open Go.RowKit Go.Shelf
def plV (x : Int × Int) : Value := .agg #[.int .i64 x.1, .int .i64 x.2]
def encP (m : List ((Int × Int) × (Int × Int))) : List KV := m.map fun e => (plV e.1, plV e.2)
def hasP (x : Int × Int) (m : List ((Int × Int) × (Int × Int))) : Bool := m.any fun e => x == e.1
def putP (x y : Int × Int) : List ((Int × Int) × (Int × Int)) → List ((Int × Int) × (Int × Int))
 | [] => [(x, y)]
 | e :: l => if x == e.1 then (x, y) :: l else e :: putP x y l
abbrev lsP : List Leaf := [.int .i64, .int .i64]
theorem okP (x : Int × Int) : okA lsP (plV x) := ⟨_, rfl, by simp [fits, Leaf.ok]⟩
theorem okP_all (m : List ((Int × Int) × (Int × Int))) : ∀ p ∈ encP m, okA lsP p.1 := by
 intro p hp
 obtain ⟨b, _, rfl⟩ := List.mem_map.1 hp
 exact okP _
theorem pl_inj {x y : Int × Int} (h : plV x = plV y) : x = y := by
 unfold plV at h
 simp only [Value.agg.injEq, Array.mk.injEq, List.cons.injEq, Value.int.injEq, true_and, and_true] at h
 exact Prod.ext h.1 h.2
theorem check_place (a b : Int) (x : Bool) (w : World) : (Instr.checkKey x 10000 84 (.agg #[.int .i64 a, .int .i64 b])).run Tryz.prog w = .ok () w := by
 kernel_rfl
theorem key_place : KeyTy Tryz.prog 84 (okA lsP) sameA := by
 refine keyTy_struct Tryz.underlying84 ?_
 rintro k ⟨xs, rfl, hx⟩ e w
 obtain ⟨x, r, rfl, h1, h2⟩ := fits_cons hx
 obtain ⟨a, rfl⟩ := ok_int_inv h1
 obtain ⟨y, r2, rfl, h3, h4⟩ := fits_cons h2
 obtain ⟨b, rfl⟩ := ok_int_inv h3
 obtain rfl := fits_nil h4
 exact check_place a b e w
theorem map_place : Tryz.prog.underlying 67 = some (.map 84 84) := Tryz.underlying67
theorem zero_place (w : World) : (zeroValue 84).run Tryz.prog w = .ok (plV (0, 0)) w := by
 kernel_rfl
theorem sameP (x y : Int × Int) : sameA (plV x) (plV y) = (x == y) := by
 rw [Bool.eq_iff_iff, same_iff key_place (okP _) (okP _), beq_iff_eq]
 exact ⟨fun h => pl_inj h, fun h => by rw [h]⟩
theorem posP (x : Int × Int) : ∀ (m : List ((Int × Int) × (Int × Int))) (i : Nat), ((posV sameA (plV x) (encP m) i).map (·.2)) = (m.find? fun e => x == e.1).map fun e => plV e.2
 | [], _ => rfl
 | b :: m, i => by
  simp only [encP, List.map_cons, posV, sameP, List.find?_cons]
  by_cases h : (x == b.1) = true
  ·
   rw [if_pos h, h]
   rfl
  ·
   rw [if_neg h, Bool.eq_false_iff.2 h]
   exact posP x m (i + 1)
theorem lookP (x : Int × Int) (m : List ((Int × Int) × (Int × Int))) : lookV sameA (plV x) (encP m) = (m.find? fun e => x == e.1).map fun e => plV e.2 := posP x m 0
theorem putP_enc (x y : Int × Int) : ∀ m, putV sameA (plV x) (plV y) (encP m) = encP (putP x y m)
 | [] => rfl
 | c :: m => by
  simp only [encP, List.map_cons, putV, putP, sameP]
  by_cases h : (x == c.1) = true
  ·
   rw [if_pos h, if_pos h]
   rfl
  ·
   rw [if_neg h, if_neg h, List.map_cons]
   congr 1
   exact putP_enc x y m
theorem hasP_find (x : Int × Int) (m : List ((Int × Int) × (Int × Int))) : hasP x m = (m.find? fun e => x == e.1).isSome := by
 unfold hasP
 induction m with
 | nil => rfl
 | cons e l ih =>
  rw [List.any_cons, List.find?_cons, ih]
  cases x == e.1 <;> rfl
theorem look_place (n i : Int) (m : List ((Int × Int) × (Int × Int))) : ∃ a b : Int, ∀ W M, mapOk W M → mapL W M = encP m →
  (Instr.lookup 67 (.map (some M)) (.agg #[.int .i64 n, .int .i64 i]) true).run Tryz.prog W = .ok (.tuple #[.agg #[.int .i64 a, .int .i64 b], .bool (hasP (n, i) m)]) W := by
 refine ⟨(((m.find? fun e => (n, i) == e.1).map (·.2)).getD (0, 0)).1, (((m.find? fun e => (n, i) == e.1).map (·.2)).getD (0, 0)).2, fun W M h1 h2 => ?_⟩
 have h := run_look key_place map_place (zero_place W) h1 (okP (n, i)) (by rw [h2]; exact okP_all m) true
 rw [h2, lookP] at h
 refine Eq.trans h ?_
 rw [hasP_find]
 cases m.find? fun e => (n, i) == e.1 <;> rfl
theorem put_place (x y : Int × Int) (m : List ((Int × Int) × (Int × Int))) {w : World} {M : Nat} (h1 : mapOk w M) (h2 : mapL w M = encP m) :
  ∃ w', (Instr.mapUpdate 67 (.map (some M)) (plV x) (plV y)).run Tryz.prog w = .ok () w' ∧ Turn M w w' ∧ mapOk w' M ∧ mapL w' M = encP (putP x y m) := by
 obtain ⟨w', e1, e2, e3, e4, _⟩ := run_put key_place map_place h1 (okP x) (by rw [h2]; exact okP_all m) (plV y)
 exact ⟨w', e1, e2, e3, by rw [e4, h2, putP_enc]⟩
theorem putP_has (x y z : Int × Int) : ∀ m, hasP z (putP x y m) = (z == x || hasP z m)
 | [] => by simp [putP, hasP]
 | e :: m => by
  unfold putP
  by_cases h : (x == e.1) = true
  ·
   rw [if_pos h]
   rw [beq_iff_eq] at h
   simp only [hasP, List.any_cons, h]
   cases z == e.1 <;> simp
  ·
   rw [if_neg h]
   have ih := putP_has x y z m
   simp only [hasP, List.any_cons] at ih ⊢
   rw [ih]
   cases z == e.1 <;> cases z == x <;> rfl
def wireOk (cs : List ConfX) (seen : List (Int × Int)) (x : WireX) : Bool :=
 match portOf cs x.a x.i, portOf cs x.b x.j with
 | some p, some q => !seen.contains (x.a, x.i) && !seen.contains (x.b, x.j) && !(x.a == x.b) && p.link && q.link && p.psk == q.psk && !(p.greets == q.greets) && p.p.native == q.p.native
 | _, _ => false
def endsOk (cs : List ConfX) : List WireX → List (Int × Int) → Bool
 | [], _ => true
 | x :: l, seen => wireOk cs seen x && endsOk cs l ((x.a, x.i) :: (x.b, x.j) :: seen)
def SeenT (w : World) (M : Nat) (seen : List (Int × Int)) : Prop :=
 mapOk w M ∧ ∃ m, mapL w M = encP m ∧ ∀ x, hasP x m = seen.contains x
theorem SeenT.below {w w' : World} {M : Nat} {seen : List (Int × Int)} (h : SeenT w M seen) (hb : Below w.heap.size w w') : SeenT w' M seen := by
 obtain ⟨h1, m, h2, h3⟩ := h
 exact ⟨mapOk_below hb h1.lt h1, m, by rw [mapL_below hb h1.lt, h2], h3⟩
theorem SeenT.has {w : World} {M : Nat} {seen : List (Int × Int)} (h : SeenT w M seen) (n i : Int) : ∃ a b : Int, ∀ W, Below w.heap.size w W →
  (Instr.lookup 67 (.map (some M)) (.agg #[.int .i64 n, .int .i64 i]) true).run Tryz.prog W = .ok (.tuple #[.agg #[.int .i64 a, .int .i64 b], .bool (seen.contains (n, i))]) W := by
 obtain ⟨h1, m, h2, h3⟩ := h
 obtain ⟨a, b, hl⟩ := look_place n i m
 exact ⟨a, b, fun W hW => by rw [← h3]; exact hl W M (mapOk_below hW h1.lt h1) (by rw [mapL_below hW h1.lt, h2])⟩
theorem SeenT.put {w : World} {M : Nat} {seen : List (Int × Int)} (h : SeenT w M seen) (x y : Int × Int) : ∃ w',
  (Instr.mapUpdate 67 (.map (some M)) (plV x) (plV y)).run Tryz.prog w = .ok () w' ∧ Turn M w w' ∧ SeenT w' M (x :: seen) := by
 obtain ⟨h1, m, h2, h3⟩ := h
 obtain ⟨w', e1, e2, e3, e4⟩ := put_place x y m h1 h2
 exact ⟨w', e1, e2, e3, _, e4, fun z => by rw [putP_has, h3, List.contains_cons]⟩
theorem SeenT.swap {w : World} {M : Nat} {seen : List (Int × Int)} {x y : Int × Int} (h : SeenT w M (x :: y :: seen)) : SeenT w M (y :: x :: seen) := by
 obtain ⟨h1, m, h2, h3⟩ := h
 refine ⟨h1, m, h2, fun z => ?_⟩
 rw [h3]
 simp only [List.contains_cons]
 cases z == x <;> cases z == y <;> rfl
theorem SeenT.nil {w : World} : SeenT (w.alloc (.map #[] 0)) w.heap.size [] :=
 ⟨mapOk_new _ rfl, [], (mapL_new _ _ _ rfl).trans rfl, fun x => rfl⟩
end
section
open Go.RowKit Go.Shelf
theorem fconfInfo : (Tryz.prog.info? 106).map (fun i => (i.zero.map (·.cells.size), i.size, i.bytes)) = some (some 13, 13, 64) := by kernel_rfl
theorem fwireInfo : (Tryz.prog.info? 109).map (fun i => (i.zero.map (·.cells.size), i.size, i.bytes)) = some (some 4, 4, 32) := by kernel_rfl
theorem rconf_load {W : World} {b o : Nat} {pa : Option Addr} {cap : Nat} {c : ConfX} (h : W.rangeAt b o (confXV pa cap c)) : (loadS 54 (.pointer (some ⟨b, o, none⟩))).run Tryz.prog W = .ok (.agg (confXV pa cap c).toArray) W := run_loadS_at h (by simp [confXV, confV])
theorem PXOwn.beside {w0 w w' : World} {B B' : Nat} {pa : Option Addr} {cap : Nat} {ps : List PortX} {e : TypeId} {sz : Nat} {v : Value} {l : List (List Value)} (h : PXOwn w0 w B pa cap ps) (h' : OwnL w B' e sz v l) (he : 137 ≠ e) (hk : ∀ X, X < w.heap.size → v.ownBlock ≠ some X → w'.heap[X]? = w.heap[X]?) : PXOwn w0 w' B pa cap ps := by
 obtain ⟨prow, ho, hr⟩ := h
 exact ⟨prow, ho.beside h' he hk, hr⟩
theorem PXOwn.below {w0 w w' : World} {B : Nat} {pa : Option Addr} {cap : Nat} {ps : List PortX} (h : PXOwn w0 w B pa cap ps) (hb : Below w.heap.size w w') : PXOwn w0 w' B pa cap ps := by
 obtain ⟨prow, ho, hr⟩ := h
 exact ⟨prow, ho.below hb, hr⟩
theorem PXOwn.lower {w0 w : World} {B B' : Nat} {pa : Option Addr} {cap : Nat} {ps : List PortX} (h : PXOwn w0 w B pa cap ps) (hB : B' ≤ B) : PXOwn w0 w B' pa cap ps := by
 obtain ⟨prow, ho, hr⟩ := h
 exact ⟨prow, ho.lower hB, hr⟩
theorem PXOwn.keep {w0 w w' : World} {B : Nat} {pa : Option Addr} {cap : Nat} {ps : List PortX} (h : PXOwn w0 w B pa cap ps) (hk : ∀ X, B ≤ X → w'.heap[X]? = w.heap[X]?) : PXOwn w0 w' B pa cap ps := by
 obtain ⟨prow, ho, hr⟩ := h
 exact ⟨prow, ho.keep fun X hX => hk X (ho.blk hX).1, hr⟩
theorem w4_load {W : World} {b o : Nat} {x : WireX} (h : W.rangeAt b o (wireC x)) : (loadS 24 (.pointer (some ⟨b, o, none⟩))).run Tryz.prog W = .ok (.agg (wireC x).toArray) W := run_loadS_at h (by simp [wireC])
theorem OwnL.but {w w' : World} {B X : Nat} {e : TypeId} {sz : Nat} {v : Value} {l : List (List Value)} (h : OwnL w B e sz v l) (hb : BelowBut w.heap.size X w w') (hX : X < B) : OwnL w' B e sz v l :=
 h.keep fun k hk => hb.block k (h.blk hk).2.1 (by have := (h.blk hk).1; omega)
theorem PXOwn.but {w0 w w' : World} {B X : Nat} {pa : Option Addr} {cap : Nat} {ps : List PortX} (h : PXOwn w0 w B pa cap ps) (hb : BelowBut w.heap.size X w w') (hX : X < B) : PXOwn w0 w' B pa cap ps := by
 obtain ⟨prow, ho, hr⟩ := h
 exact ⟨prow, ho.but hb hX, hr⟩
theorem ofP_any (ca : Option Addr) (cc : Nat) (cs : List ConfX) (wa : Option Addr) (wc : Nat) (ws : List WireX) (r k p d room : Int) (seed : List UInt8) (w : World) (h : ConfsAt w ca cs) (hw : WiresAt w wa ws) (hn : cs.length ≤ 1000) (hps : ∀ c ∈ cs, c.ps.length ≤ 1000) (hwn : ws.length ≤ 1000) :
  Calls Tryz.prog 20 #[.agg (planV ca cs.length cc wa ws.length wc r k p d room seed).toArray] w fun e w' => (∃ ca' wa', (∃ cc' wc', e = .returned (.agg (planV ca' cs.length cc' wa' ws.length wc' r k p d room seed).toArray)) ∧ ConfsAt w' ca' cs ∧ WiresAt w' wa' ws) ∧ Below w.heap.size w w' := by
 have hnI : (cs.length : Int) ≤ 1000 := by omega
 have hwnI : (ws.length : Int) ≤ 1000 := by omega
 unfold planV
 go_enter Tryz.func20, Tryz.ntmps20
 obtain ⟨w1, hw1⟩ : ∃ x, w.alloc (.cells #[Value.slice ca cs.length cc, .slice wa ws.length wc, .int .i64 r, .int .i64 k, .int .i64 p, .int .i64 d, .int .i64 room, .string ⟨seed.toArray⟩] 26) = x := ⟨_, rfl⟩
 have b1 : Below w.heap.size w w1 := by rw [← hw1]; exact ba_
 have z1 : w1.heap.size = w.heap.size + 1 := by rw [← hw1, alloc_sizeW]
 have rC1 : row w1 w.heap.size = #[Value.slice ca cs.length cc, .slice wa ws.length wc, .int .i64 r, .int .i64 k, .int .i64 p, .int .i64 d, .int .i64 room, .string ⟨seed.toArray⟩] := by rw [← hw1]; exact row_alloc_at _ _ _ rfl
 go_wp2_with fail
 obtain ⟨w3, hw3⟩ : ∃ x, (w1.alloc (.cells (zeros 2 (Value.slice none 0 0) ++ (zeros 5 (Value.int .i64 0) ++ [Value.string ⟨#[]⟩])).toArray 48)).alloc (.cells (zeros 2 (Value.slice none 0 0) ++ [Value.int .i64 r, Value.int .i64 k, Value.int .i64 p, Value.int .i64 d, Value.int .i64 room, Value.string ⟨seed.toArray⟩]).toArray 48) = x := ⟨_, rfl⟩
 have b3 : Below w1.heap.size w1 w3 := by rw [← hw3]; exact Below.alloc (ba_) (by simp) _
 have z3 : w3.heap.size = w.heap.size + 3 := by rw [← hw3, alloc_sizeW, alloc_sizeW, z1]
 have rR3 : row w3 (w.heap.size + 1) = (zeros 2 (Value.slice none 0 0) ++ (zeros 5 (Value.int .i64 0) ++ [Value.string ⟨#[]⟩])).toArray := by rw [← hw3]; simp [go_sem, z1]
 have rX3 : row w3 (w.heap.size + 1 + 1) = #[Value.slice none 0 0, .slice none 0 0, .int .i64 r, .int .i64 k, .int .i64 p, .int .i64 d, .int .i64 room, .string ⟨seed.toArray⟩] := by rw [← hw3]; simp [go_sem, z1]; rfl
 have rC3 := (row_below b3 (by omega)).trans rC1
 have B3 : Below w.heap.size w w3 := b1.trans (b3.mono (by omega))
 rw [hw3]
 (try clear hw1)
 have q0 : w.heap.size + 1 + 1 < w3.heap.size := by omega
 clear hw3 rC1 b1 b3 z1 z3
 go_loopw [4] (fun i wr => ∃ (q : Nat) (ppa : Option Addr) (ppc : Nat) (rows : List (List Value)), q ≤ cs.length ∧ i = .int .i64 q ∧ rows.length = q ∧ OwnL wr w3.heap.size 106 13 (.slice ppa q ppc) rows ∧
  (∀ (m : Nat) (c : ConfX), m < q → cs[m]? = some c → ∃ pa' cap', rows[m]? = some (confXV pa' cap' c) ∧ PXOwn w wr w3.heap.size pa' cap' c.ps) ∧ row wr (w.heap.size + 1 + 1) = #[Value.slice ppa q ppc, .slice none 0 0, .int .i64 r, .int .i64 k, .int .i64 p, .int .i64 d, .int .i64 room, .string ⟨seed.toArray⟩] ∧ BelowBut w3.heap.size (w.heap.size + 1 + 1) w3 wr) (fun i _ => cs.length - (intOf i).toNat)
 case atStart => exact ⟨0, none, 0, [], by omega, rfl, rfl, OwnL.nil _ _ _ _, (fun q r hq _ => by omega), rX3, BelowBut.of (Below.refl _ _)⟩
 case round =>
  obtain ⟨q, ppa, ppc, rows, hq, rfl, hrl, hown, hrows, rX, cb⟩ := hrel
  have zb := cb.size
  have rC := (cb.row (show w.heap.size < w3.heap.size by omega) (by omega)).trans rC3
  have rR := (cb.row (show w.heap.size + 1 < w3.heap.size by omega) (by omega)).trans rR3
  have cbw : Below w.heap.size w wr := B3.trans ((cb.mono (show w.heap.size ≤ w3.heap.size by omega)).below (by omega))
  by_cases hlt : q < cs.length
  ·
   have hltI : (q : Int) < (cs.length : Int) := by omega
   obtain ⟨b, off, pa, cap, rfl, hb, hr⟩ := h.get hlt
   obtain ⟨c, hc⟩ : ∃ c, cs[q] = c := ⟨_, rfl⟩
   have hpc : c.ps.length ≤ 1000 := hps c (hc ▸ List.getElem_mem hlt)
   rw [hc] at hr
   obtain ⟨o, ho⟩ : ∃ o, off + q * 13 = o := ⟨_, rfl⟩
   have hld : ∀ W, Below w3.heap.size wr W → (loadS 54 (.pointer (some ⟨b, o, none⟩))).run Tryz.prog W = .ok (.agg (confXV pa cap c).toArray) W := fun W hW => by
    rw [← ho]
    exact rconf_load (hr W (cbw.trans (hW.mono (by omega)))).1
   have hpx := (hr w (Below.refl _ _)).2
   unfold confXV confV at hld
   have hC0 : ∀ W, Below w3.heap.size wr W → W.cell? ⟨w.heap.size, 0, none⟩ = some (.slice (some ⟨b, off, none⟩) cs.length cc) := fun W hW => by
    have e := (row_below hW (show w.heap.size < w3.heap.size by omega)).trans rC
    rw [cell_of_row' (by rw [e]; simp), e]; rfl
   have hX0 : ∀ W, Below w3.heap.size wr W → W.cell? ⟨w.heap.size + 1 + 1, 0, none⟩ = some (.slice ppa q ppc) := fun W hW => by
    have e := (row_below hW (show w.heap.size + 1 + 1 < w3.heap.size by omega)).trans rX
    rw [cell_of_row' (by rw [e]; simp), e]; rfl
   have HR := h_ hr
   have HC := h_ hc
   have HPX := h_ hpx
   have HRW := h_ hrows
   have HOW := h_ hown
   clear hr hc hpx hrows hown
   go_wp2_with fail
   have hG : GrowP fun W => Below w3.heap.size wr W := fun w w' h hb => h.trans (hb.mono (by have := h.size; omega))
   refine wp_region_beginKG 11 _ hG rfl (Below.refl _ _) (fun hS => ?_)
   refine kf 0 hG hS ?_
   refine kg 1 hG hS ?_
   refine kf 2 hG hS ?_
   refine kg 3 hG hS ?_
   refine kf 4 hG hS ?_
   refine kg 5 hG hS ?_
   refine kg 6 hG hS ?_
   refine wpAnyK_op1 7 kr_ (by decide) (fun u4 hu4 => ?_)
   replace hu4 : Below wr.heap.size wr u4 := below_step (Below.drew (Below.refl _ _)) hu4
   refine wpOp_step rfl (fun K hK => ?_)
   go_simp
   have b4 : Below w.heap.size w u4 := cbw.trans (hu4.mono cbw.size)
   have zu4 := hu4.size
   have hO := ofCO_any c.id c.ma c.he c.de c.ageing pa cap c.ps w u4 b4 HPX.out hpc
   unfold confV at hO
   (with_reducible refine hO.mono ?_)
   rintro e y ⟨⟨pa', cap', rfl, hpw⟩, by0⟩
   have zy := by0.size
   have bY : Below wr.heap.size wr y := hu4.trans (by0.mono zu4)
   have hS : XS [] (fun W => Below w3.heap.size wr W) y := ⟨trivial, bY.mono zb⟩
   refine hK _ _ ⟨hS, ?_⟩
   clear hK K hO
   (try simp only [Act.put, List.setIfInBounds_toArray, List.set_cons_zero, List.set_cons_succ])
   refine wpAnyK_op1 8 kr_ (by decide) (fun u5 hu5 => ?_)
   have zu5 := hu5.size
   refine wpOp_step rfl (fun K hK => ?_)
   go_simp
   have hf : List.foldl (fun (cs : Array Value) (x : Value × Nat) => cs.setIfInBounds x.2 x.1) #[.int .u8 0, .int .u8 0, .int .u8 0, .int .u8 0, .int .u8 0, .int .u8 0, .int .u8 0, .int .u8 0, .int .i64 0, .int .i64 0, .int .i64 0, .int .i64 0, .slice none 0 0] ((u8v c.id ++ [Value.int .i64 c.ma, Value.int .i64 c.he, Value.int .i64 c.de, Value.int .i64 c.ageing, Value.slice pa' c.ps.length cap']).zipIdx) = (u8v c.id ++ [Value.int .i64 c.ma, Value.int .i64 c.he, Value.int .i64 c.de, Value.int .i64 c.ageing, Value.slice pa' c.ps.length cap']).toArray := fold_at _ [] [.int .u8 0, .int .u8 0, .int .u8 0, .int .u8 0, .int .u8 0, .int .u8 0, .int .u8 0, .int .u8 0, .int .i64 0, .int .i64 0, .int .i64 0, .int .i64 0, .slice none 0 0] (by simp)
   rw [hf]
   clear hf
   obtain ⟨u6, hu6⟩ : ∃ x, u5.alloc (.cells (u8v c.id ++ [Value.int .i64 c.ma, Value.int .i64 c.he, Value.int .i64 c.de, Value.int .i64 c.ageing, Value.slice pa' c.ps.length cap']).toArray 106) = x := ⟨_, rfl⟩
   have b6 : Below u5.heap.size u5 u6 := by rw [← hu6]; exact ba_
   have r6 : row u6 u5.heap.size = (u8v c.id ++ [Value.int .i64 c.ma, Value.int .i64 c.he, Value.int .i64 c.de, Value.int .i64 c.ageing, Value.slice pa' c.ps.length cap']).toArray := by rw [← hu6]; exact row_alloc_at _ _ _ rfl
   have z6 : u6.heap.size = u5.heap.size + 1 := by rw [← hu6, alloc_sizeW]
   rw [hu6]
   have bZ : Below wr.heap.size wr u6 := (bY.trans (hu5.mono bY.size)).trans (b6.mono (by omega))
   have hS : XS [] (fun W => Below w3.heap.size wr W) u6 := ⟨trivial, bZ.mono zb⟩
   refine hK _ _ ⟨hS, ?_⟩
   clear hK K hu6
   (try simp only [Act.put, List.setIfInBounds_toArray, List.set_cons_zero, List.set_cons_succ])
   refine wpAnyK_op1 9 kr_ (by decide) (fun u7 hu7 => ?_)
   have zu7 := hu7.size
   have r7 := (row_below hu7 (by omega)).trans r6
   have b7 : Below wr.heap.size wr u7 := bZ.trans (hu7.mono bZ.size)
   have own7 := HOW.out.below b7
   have hl13 : (u8v c.id ++ [Value.int .i64 c.ma, Value.int .i64 c.he, Value.int .i64 c.de, Value.int .i64 c.ageing, Value.slice pa' c.ps.length cap']).length = 13 := by simp
   have hl1 : ones (u8v c.id ++ [Value.int .i64 c.ma, Value.int .i64 c.he, Value.int .i64 c.de, Value.int .i64 c.ageing, Value.slice pa' c.ps.length cap']) = true := by simp
   refine wpOp_wp opt_ rfl ?_
   refine wp_appendL (t := 43) rfl Tryz.underlying43 fconfInfo (by decide) (by decide) w3.heap.size _ rows rfl own7 u5.heap.size 1 (u8v c.id ++ [Value.int .i64 c.ma, Value.int .i64 c.he, Value.int .i64 c.de, Value.int .i64 c.ageing, Value.slice pa' c.ps.length cap']) rfl r7 hl13 hl1 (by omega) (by omega) ?_
   intro v8 u8 hown8 b8 hk8
   have zu8 := b8.size
   obtain ⟨ppa8, ppc8, hv8, _⟩ := hown8.elems
   simp only [List.length_append, List.length_singleton, hrl] at hv8
   subst hv8
   have b38 : Below w3.heap.size wr u8 := (b7.mono zb).trans b8
   have hS : XS [] (fun W => Below w3.heap.size wr W) u8 := ⟨trivial, b38⟩
   refine ⟨hS, ?_⟩
   (try simp only [Act.put, List.setIfInBounds_toArray, List.set_cons_zero, List.set_cons_succ])
   have hrows8 : ∀ (m : Nat) (c' : ConfX), m < q + 1 → cs[m]? = some c' → ∃ pa2 cap2, (rows ++ [u8v c.id ++ [Value.int .i64 c.ma, Value.int .i64 c.he, Value.int .i64 c.de, Value.int .i64 c.ageing, Value.slice pa' c.ps.length cap']])[m]? = some (confXV pa2 cap2 c') ∧ PXOwn w u8 w3.heap.size pa2 cap2 c'.ps := by
    intro m c' hm hc'
    by_cases hmq : m < q
    ·
     obtain ⟨pa2, cap2, e1, e2⟩ := HRW.out m c' hmq hc'
     exact ⟨pa2, cap2, by rw [List.getElem?_append_left (by omega)]; exact e1, (e2.below b7).beside own7 (by decide) hk8⟩
    ·
     have hqe : m = q := by omega
     subst hqe
     rw [List.getElem?_eq_getElem hlt, HC.out] at hc'
     cases hc'
     exact ⟨pa', cap', by rw [List.getElem?_append_right (by omega), hrl, Nat.sub_self]; rfl, (((hpw.below (hu5.trans (b6.mono (by omega)))).below hu7).lower (by omega)).beside own7 (by decide) hk8⟩
   have HRW8 := h_ hrows8
   have HO8 := h_ hown8
   clear hrows8 hown8 hk8 own7 hpw HRW HOW r7 r6
   refine kg 10 hG hS ?_
   refine wpAnyK_store (k := 11) opt_ rfl rfl kr_ (fun y2 hy => ?_)
   have zy2 := hy.size
   have b3y : Below w3.heap.size wr y2 := b38.trans (hy.mono (by omega))
   have rXy := (row_below b3y (show w.heap.size + 1 + 1 < w3.heap.size by omega)).trans rX
   obtain ⟨y3, hy3⟩ : ∃ x, y2.setRow (w.heap.size + 1 + 1) #[Value.slice ppa8 (q + 1) ppc8, .slice none 0 0, .int .i64 r, .int .i64 k, .int .i64 p, .int .i64 d, .int .i64 room, .string ⟨seed.toArray⟩] = x := ⟨_, rfl⟩
   refine ⟨y3, ?_, ⟨trivial, trivial⟩, fun hS => ?_⟩
   ·
    rw [← hy3]
    go_simp
    try exact ⟨_, _, rfl, rfl⟩
   refine wpAnyR_done kr_ (fun w9 b9 => ?_) _
   have zy3 : y3.heap.size = y2.heap.size := by rw [← hy3]; simp
   have z9 := b9.size
   have rX9 : row w9 (w.heap.size + 1 + 1) = #[Value.slice ppa8 (q + 1) ppc8, .slice none 0 0, .int .i64 r, .int .i64 k, .int .i64 p, .int .i64 d, .int .i64 room, .string ⟨seed.toArray⟩] := by
    rw [row_below b9 (by omega), ← hy3]
    exact row_setRow_same (by rw [rXy]; simp) (by rw [rXy]; simp)
   have hk9 : ∀ X, w3.heap.size ≤ X → y3.heap[X]? = y2.heap[X]? := fun X hX => by rw [← hy3]; exact setRow_block_other _ _ _ (by omega)
   have HO9 := h_ (((HO8.out.below hy).keep fun X hX => hk9 X ((HO8.out.below hy).blk hX).1).below b9)
   have hrows9 : ∀ (m : Nat) (c' : ConfX), m < q + 1 → cs[m]? = some c' → ∃ pa2 cap2, (rows ++ [u8v c.id ++ [Value.int .i64 c.ma, Value.int .i64 c.he, Value.int .i64 c.de, Value.int .i64 c.ageing, Value.slice pa' c.ps.length cap']])[m]? = some (confXV pa2 cap2 c') ∧ PXOwn w w9 w3.heap.size pa2 cap2 c'.ps := fun m c' hm hc' => by
    obtain ⟨pa2, cap2, e1, e2⟩ := HRW8.out m c' hm hc'
    exact ⟨pa2, cap2, e1, ((e2.below hy).keep hk9).below b9⟩
   have cb9 : BelowBut w3.heap.size (w.heap.size + 1 + 1) w3 w9 := ((cb.trans (BelowBut.of b3y)).trans (hy3 ▸ BelowBut.set _ _)).trans ((BelowBut.of b9).mono (by omega))
   have HRW9 := h_ hrows9
   clear hS hy hy3 rXy b3y b9 hrows9 hk9 HO8 HRW8 zy3 zy2 b38 hX0 hC0 hld hG rX rC rR
   go_wp2_with fail
   go_roundw
   case rel => exact ⟨q + 1, ppa8, ppc8, _, by omega, by simp, by simp [hrl], HO9.out, HRW9.out, rX9, cb9⟩
   case measure => simp [intOf]; omega
  ·
   obtain rfl : q = cs.length := by omega
   have hltI : ¬ (cs.length : Int) < (cs.length : Int) := by omega
   have HOW := h_ hown
   have HRW := h_ hrows
   clear hown hrows
   go_wp2_with fail
   obtain ⟨wq, hwq⟩ : ∃ x, x = wr := ⟨_, rfl⟩
   subst hwq
   go_loopw [5] (fun i wr => ∃ (j : Nat) (va : Option Addr) (vc : Nat), j ≤ ws.length ∧ i = .int .i64 j ∧ OwnL wr wq.heap.size 109 4 (.slice va j vc) ((ws.take j).map wireC) ∧ row wr (w.heap.size + 1 + 1) = #[Value.slice ppa cs.length ppc, .slice va j vc, .int .i64 r, .int .i64 k, .int .i64 p, .int .i64 d, .int .i64 room, .string ⟨seed.toArray⟩] ∧ BelowBut wq.heap.size (w.heap.size + 1 + 1) wq wr) (fun i _ => ws.length - (intOf i).toNat)
   case atStart => exact ⟨0, none, 0, by omega, rfl, by rw [List.take_zero]; exact OwnL.nil _ _ _ _, rX, BelowBut.of (Below.refl _ _)⟩
   case round =>
    obtain ⟨j, va, vc, hj, rfl, hown2, rX2, cb2⟩ := hrel
    have zb2 := cb2.size
    have rC2 := (cb2.row (show w.heap.size < wq.heap.size by omega) (by omega)).trans rC
    have rR2 := (cb2.row (show w.heap.size + 1 < wq.heap.size by omega) (by omega)).trans rR
    have cbv : Below w.heap.size w wr := cbw.trans ((cb2.mono (show w.heap.size ≤ wq.heap.size by omega)).below (by omega))
    by_cases hlt : j < ws.length
    ·
     have hltI : (j : Int) < (ws.length : Int) := by omega
     obtain ⟨vb, voff, rfl, hvb, hvr⟩ := hw.get hlt
     obtain ⟨x, hx⟩ : ∃ x, ws[j] = x := ⟨_, rfl⟩
     rw [hx] at hvr
     obtain ⟨o, ho⟩ : ∃ o, voff + j * 4 = o := ⟨_, rfl⟩
     have hld := w4_load (ho ▸ hvr wr cbv)
     unfold wireC at hld
     have HX := h_ hx
     obtain ⟨vrows, hvr2⟩ : ∃ l, (ws.take j).map wireC = l := ⟨_, rfl⟩
     rw [hvr2] at hown2
     have hvl : vrows.length = j := by rw [← hvr2, List.length_map, List.length_take]; omega
     have HVR := h_ hvr2
     clear hvr2
     have HV := h_ hown2
     clear hvr hx hown2
     obtain ⟨w4, hw4⟩ : ∃ y, wr.alloc (.cells #[Value.int .i64 x.a, Value.int .i64 x.i, Value.int .i64 x.b, Value.int .i64 x.j] 24) = y := ⟨_, rfl⟩
     have b4 : Below wr.heap.size wr w4 := by rw [← hw4]; exact ba_
     have z4 : w4.heap.size = wr.heap.size + 1 := by rw [← hw4, alloc_sizeW]
     have r4 : row w4 wr.heap.size = #[Value.int .i64 x.a, Value.int .i64 x.i, Value.int .i64 x.b, Value.int .i64 x.j] := by rw [← hw4]; exact row_alloc_at _ _ _ rfl
     have rX4 := (row_below b4 (show w.heap.size + 1 + 1 < wr.heap.size by omega)).trans rX2
     have own4 := HV.out.below b4
     have HO4 := h_ own4
     have hle10 : vrows.length ≤ 10000 := by omega
     have HL := h_ hle10
     have k34 : wq.heap.size ≤ w4.heap.size := by omega
     have HZ4 := h_ z4
     clear own4 hle10 z4
     go_wp2_with (at_builtin; (refine wpList_appendB rfl rfl Tryz.underlying44 fwireInfo (by decide) (by decide) wq.heap.size _ _ rfl HO4.out [Value.int .i64 x.a, Value.int .i64 x.i, Value.int .i64 x.b, Value.int .i64 x.j] rfl rfl rfl HL.out k34 ?_))
     intro v5 w5 hown5 b5 hk5
     obtain ⟨va5, vc5, hv5, _⟩ := hown5.elems
     simp only [List.length_append, List.length_singleton, hvl] at hv5
     subst hv5
     have htk : vrows ++ [[Value.int .i64 x.a, Value.int .i64 x.i, Value.int .i64 x.b, Value.int .i64 x.j]] = (ws.take (j + 1)).map wireC := by
      rw [List.take_add_one, List.getElem?_eq_getElem hlt, HX.out, ← HVR.out]; simp [wireC]
     rw [htk] at hown5
     clear htk
     have z5 : w4.heap.size ≤ w5.heap.size := b5.size
     have rX5 := (row_beside HO4.out (show w.heap.size + 1 + 1 < w4.heap.size by have := HZ4.out; omega) (show w.heap.size + 1 + 1 < wq.heap.size by omega) hk5).trans rX4
     obtain ⟨w6, hw6⟩ : ∃ y, w5.setRow (w.heap.size + 1 + 1) #[Value.slice ppa cs.length ppc, .slice va5 (j + 1) vc5, .int .i64 r, .int .i64 k, .int .i64 p, .int .i64 d, .int .i64 room, .string ⟨seed.toArray⟩] = y := ⟨_, rfl⟩
     have rX6 : row w6 (w.heap.size + 1 + 1) = #[Value.slice ppa cs.length ppc, .slice va5 (j + 1) vc5, .int .i64 r, .int .i64 k, .int .i64 p, .int .i64 d, .int .i64 room, .string ⟨seed.toArray⟩] := by rw [← hw6]; exact row_setRow_same (by rw [rX5]; simp) (by rw [rX5]; simp)
     have hk6 : ∀ X, wq.heap.size ≤ X → w6.heap[X]? = w5.heap[X]? := fun X hX => by rw [← hw6]; exact setRow_block_other _ _ _ (by omega)
     have cb6 : BelowBut wq.heap.size (w.heap.size + 1 + 1) wq w6 := by rw [← hw6]; exact ((cb2.trans ((BelowBut.of b4).mono (by omega))).trans (BelowBut.of b5)).trans (BelowBut.set _ _)
     have HO6 := h_ (hown5.keep fun X hX => hk6 X (hown5.blk hX).1)
     clear hown5 hk5 hk6 HO4 HV b4 b5 rX4 rX2 r4 hld
     go_wp2_with fail
     (try rw [hw6])
     (try clear hw6)
     go_roundw
     case rel => exact ⟨j + 1, va5, vc5, by omega, by simp, HO6.out, rX6, cb6⟩
     case measure => simp [intOf]; omega
    ·
     obtain rfl : j = ws.length := by omega
     have hltI : ¬ (ws.length : Int) < (ws.length : Int) := by omega
     have hfull : (ws.take ws.length).map wireC = ws.map wireC := by rw [List.take_length]
     rw [hfull] at hown2
     have HV := h_ hown2
     clear hown2 hfull
     obtain ⟨w7, hw7⟩ : ∃ y, wr.setRow (w.heap.size + 1) #[Value.slice ppa cs.length ppc, .slice va ws.length vc, .int .i64 r, .int .i64 k, .int .i64 p, .int .i64 d, .int .i64 room, .string ⟨seed.toArray⟩] = y := ⟨_, rfl⟩
     have rR7 : row w7 (w.heap.size + 1) = #[Value.slice ppa cs.length ppc, .slice va ws.length vc, .int .i64 r, .int .i64 k, .int .i64 p, .int .i64 d, .int .i64 room, .string ⟨seed.toArray⟩] := by rw [← hw7]; exact row_setRow_same (by rw [rR2]; simp) (by rw [rR2]; simp)
     have B7 : Below w.heap.size w w7 := by rw [← hw7]; exact Below.setRow cbv (by omega) _
     have hk7 : ∀ X, w3.heap.size ≤ X → w7.heap[X]? = wr.heap[X]? := fun X hX => by rw [← hw7]; exact setRow_block_other _ _ _ (by omega)
     have HO7 := h_ ((HOW.out.but cb2 (by omega)).keep fun X hX => hk7 X ((HOW.out.but cb2 (by omega)).blk hX).1)
     have HV7 := h_ (HV.out.keep fun X hX => hk7 X (by have := (HV.out.blk hX).1; omega))
     have hrows7 : ∀ (m : Nat) (c' : ConfX), cs[m]? = some c' → ∃ pa2 cap2, rows[m]? = some (confXV pa2 cap2 c') ∧ PXOff [] w7 pa2 c'.ps := fun m c' hc' => by
      obtain ⟨pa2, cap2, e1, e2⟩ := HRW.out m c' (List.getElem?_eq_some_iff.1 hc').1 hc'
      exact ⟨pa2, cap2, e1, ((e2.but cb2 (by omega)).keep hk7).px B7 (hps c' (List.mem_of_getElem? hc'))⟩
     have HRW7 := h_ hrows7
     clear hk7 hrows7 HRW HV HOW
     go_wp2_with fail
     (try rw [hw7])
     (try clear hw7)
     (try simp only [Exit.inBlock, Exit.then])
     refine bodyPost_ret (results_1 rfl (resOk_row rfl ?_)) rfl ?_
     ·
      rw [rR7]; simp
     obtain ⟨ca8, cc8, e8, h8⟩ := HO7.out.elems
     obtain ⟨wa8, wc8, e9, h9⟩ := HV7.out.elems
     simp only [Value.slice.injEq] at e8 e9
     obtain ⟨rfl, _, rfl⟩ := e8
     obtain ⟨rfl, _, rfl⟩ := e9
     exact ⟨⟨ppa, va, ⟨ppc, vc, by rw [rR7]⟩, ⟨rows, hrl, h8, fun m c' hc' => HRW7.out m c' hc'⟩, h9⟩, B7⟩
end
end Go.Proofs.YtfopoijikdmiaaaGreatDoor
