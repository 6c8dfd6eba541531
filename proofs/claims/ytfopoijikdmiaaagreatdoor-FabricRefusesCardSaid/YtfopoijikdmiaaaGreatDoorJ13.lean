/- Texts of this proof, merged: Ler, LerC, LerV, LerO, LerT. -/
import Derived.Test.YtfopoijikdmiaaaGreatDoorJ11
import Derived.Test.YtfopoijikdmiaaaGreatDoorMapGJ
import Derived.Test.YtfopoijikdmiaaaGreatDoorJ2
import Derived.Test.YtfopoijikdmiaaaGreatDoorJ3
import Derived.Test.YtfopoijikdmiaaaGreatDoorJ6
import Derived.Test.YtfopoijikdmiaaaGreatDoorJ7
import Derived.Test.YtfopoijikdmiaaaGreatDoorJ5
import Derived.Shelf.Abstract
import Derived.RangeFuncNested
import Derived.RangeFuncLeaves
import Derived.OwnWalkIn
import Derived.TacticsInMore
import Derived.LoopNIn
import Derived.LoopIn
import Derived.Sort.MapsRangeIn
set_option linter.unusedSimpArgs false
set_option linter.unusedVariables false
set_option maxHeartbeats 8000000
set_option maxRecDepth 20000
namespace Go.Proofs.YtfopoijikdmiaaaGreatDoor
section
open Go.RowKit
structure LB where
 v : Int
 mac : Vector UInt8 6
 port : Int
 age : Int
def lkV (v : Int) (mac : Vector UInt8 6) : Value := .agg (Value.int .i64 v :: u8v mac).toArray
def lvV (port age : Int) : Value := .agg #[Value.int .i64 port, Value.int .i64 age, Value.bool false]
def LB.ent (b : LB) : KV := (lkV b.v b.mac, lvV b.port b.age)
def encL (m : List LB) : List KV := m.map LB.ent
def LB.is (b : LB) (v : Int) (mac : Vector UInt8 6) : Bool := v == b.v && mac == b.mac
def findL (v : Int) (mac : Vector UInt8 6) (m : List LB) : Option LB := m.find? fun b => b.is v mac
def putL (b : LB) : List LB → List LB
 | [] => [b]
 | c :: l => if c.is b.v b.mac then b :: l else c :: putL b l
abbrev lsL : List Leaf := .int .i64 :: (leaves 6 (.int .u8) ++ [])
theorem okL (v : Int) (mac : Vector UInt8 6) : okA lsL (lkV v mac) := ⟨_, rfl, by
 simp only [fits, Leaf.ok, Bool.and_eq_true]
 exact ⟨by simp, by have h := fits_u8v mac [] []; rw [List.append_nil (u8v mac)] at h; rw [h]; rfl⟩⟩
theorem okL_all (m : List LB) : ∀ p ∈ encL m, okA lsL p.1 := by
 intro p hp
 obtain ⟨b, _, rfl⟩ := List.mem_map.1 hp
 exact okL _ _
theorem u8v_inj {n : Nat} {a b : Vector UInt8 n} (h : u8v a = u8v b) : a = b := by
 have h2 := congrArg bytesOf h
 rw [bytesOf_u8v, bytesOf_u8v] at h2
 exact Vector.toList_inj.1 h2
theorem lk_inj {v v' : Int} {a b : Vector UInt8 6} (h : lkV v a = lkV v' b) : v = v' ∧ a = b := by
 have h2 : Value.int .i64 v :: u8v a = Value.int .i64 v' :: u8v b := by
  have := congrArg (fun x : Value => match x with | .agg c => c.toList | _ => []) h
  exact this
 rw [List.cons.injEq] at h2
 refine ⟨?_, u8v_inj h2.2⟩
 have := h2.1
 injection this
theorem fits_inv8 : ∀ {n : Nat} {xs : List Value}, fits (leaves n (.int .u8)) xs = true → ∃ is : List Int, is.length = n ∧ xs = is.map (Value.int .u8)
 | 0, xs, h => by
  obtain rfl := fits_nil h
  exact ⟨[], rfl, rfl⟩
 | n + 1, xs, h => by
  rw [leaves_eq, List.replicate_succ, ← leaves_eq] at h
  obtain ⟨x, r, rfl, h1, h2⟩ := fits_cons h
  obtain ⟨v, rfl⟩ := ok_int_inv h1
  obtain ⟨is, hl, rfl⟩ := fits_inv8 h2
  exact ⟨v :: is, by simp [hl], rfl⟩
theorem check_learn (v a b c d e f : Int) (x : Bool) (w : World) : (Instr.checkKey x 10000 270 (.agg #[.int .i64 v, .int .u8 a, .int .u8 b, .int .u8 c, .int .u8 d, .int .u8 e, .int .u8 f])).run Tryz.prog w = .ok () w := by
 kernel_rfl
theorem key_learn : KeyTy Tryz.prog 270 (okA lsL) sameA := by
 refine keyTy_struct Tryz.underlying270 ?_
 rintro k ⟨xs, rfl, hx⟩ e w
 obtain ⟨x, r, rfl, h1, h2⟩ := fits_cons hx
 obtain ⟨v, rfl⟩ := ok_int_inv h1
 rw [List.append_nil] at h2
 obtain ⟨is, hl, rfl⟩ := fits_inv8 h2
 match is, hl with
 | [a, b, c, d, g, f], _ => exact check_learn v a b c d g f e w
theorem map_learn : Tryz.prog.underlying 266 = some (.map 270 272) := Tryz.underlying266
theorem zero_learn (w : World) : (zeroValue 272).run Tryz.prog w = .ok (lvV 0 0) w := by
 kernel_rfl
theorem sameL (v : Int) (mac : Vector UInt8 6) (b : LB) : sameA (lkV v mac) (lkV b.v b.mac) = b.is v mac := by
 rw [Bool.eq_iff_iff, same_iff key_learn (okL _ _) (okL _ _)]
 constructor
 ·
  intro h
  obtain ⟨h1, h2⟩ := lk_inj h
  simp [LB.is, h1, h2]
 ·
  intro h
  simp only [LB.is, Bool.and_eq_true, beq_iff_eq] at h
  rw [h.1, h.2]
theorem posL (v : Int) (mac : Vector UInt8 6) : ∀ (m : List LB) (i : Nat), (posV sameA (lkV v mac) (encL m) i).map (·.2) = (findL v mac m).map fun b => lvV b.port b.age
 | [], _ => rfl
 | b :: m, i => by
  simp only [encL, List.map_cons, posV, findL, LB.ent, sameL, List.find?_cons]
  by_cases h : b.is v mac = true
  ·
   rw [if_pos h, h]
   rfl
  ·
   rw [if_neg h, Bool.eq_false_iff.2 h]
   exact posL v mac m (i + 1)
theorem lookL (v : Int) (mac : Vector UInt8 6) (m : List LB) : lookV sameA (lkV v mac) (encL m) = (findL v mac m).map fun b => lvV b.port b.age := posL v mac m 0
theorem putL_enc (b : LB) : ∀ m : List LB, putV sameA (lkV b.v b.mac) (lvV b.port b.age) (encL m) = encL (putL b m)
 | [] => rfl
 | c :: m => by
  simp only [encL, List.map_cons, putV, putL, LB.ent, sameL]
  by_cases h : c.is b.v b.mac = true
  ·
   rw [if_pos h, if_pos h]
   rfl
  ·
   rw [if_neg h, if_neg h, List.map_cons]
   congr 1
   exact putL_enc b m
theorem encL_nodup (m : List LB) : ((encL m).map (·.1)).Nodup ↔ m.Pairwise fun a b => a.is b.v b.mac = false := by
 unfold encL
 rw [List.map_map, List.Nodup, List.pairwise_map]
 have h : ∀ a b : LB, ((fun p : KV => p.1) ∘ LB.ent) a ≠ ((fun p : KV => p.1) ∘ LB.ent) b ↔ a.is b.v b.mac = false := by
  intro a b
  rw [← sameL, Bool.eq_false_iff, Ne, Ne, same_iff key_learn (okL _ _) (okL _ _)]
  exact ⟨fun h e => h e.symm, fun h e => h e.symm⟩
 constructor <;> exact fun hp => hp.imp fun {a b} hab => by first | exact (h a b).1 hab | exact (h a b).2 hab
structure LerT (w : World) (T M : Nat) (ageing : Int) (lv : Value) (m : List LB) : Prop where
 row : row w T = #[.int .i64 ageing, lv, .map (some M)]
 ok : mapOk w M
 map : mapL w M = encL m
theorem LerT.lt {w : World} {T M : Nat} {ageing : Int} {lv : Value} {m : List LB} (h : LerT w T M ageing lv m) : T < w.heap.size := lt_of_row (i := 0) (by rw [h.row]; simp)
theorem LerT.below {B : Nat} {w w' : World} {T M : Nat} {ageing : Int} {lv : Value} {m : List LB} (h : LerT w T M ageing lv m) (hb : Below B w w') (hT : T < B) (hM : M < B) : LerT w' T M ageing lv m :=
 ⟨by rw [row_below hb hT, h.row], mapOk_below hb hM h.ok, by rw [mapL_below hb hM, h.map]⟩
def DistL (m : List LB) : Prop := m.Pairwise fun a b => a.is b.v b.mac = false
def dropL (port : Int) (m : List LB) : List LB := m.filter fun b => !(b.port == port)
def onL (port : Int) (m : List LB) : Nat := (m.filter fun b => b.port == port).length
def hearL (lim : Int) (v : Int) (mac : Vector UInt8 6) (port : Int) (m : List LB) : List LB :=
 if (match findL v mac m with | some b => b.port == port | none => false) || decide ((onL port m : Int) < lim) then putL ⟨v, mac, port, 0⟩ m else m
end
section
open Go.RowKit Go.Shelf
def goneF (wh : Int → Int → Bool) (p : KV) : Option KV := if wh (cellI p.2 0) (cellI p.2 1) = true then none else some p
theorem goneF_keeps (wh : Int → Int → Bool) : keepsK (goneF wh) := by
 intro p q h
 unfold goneF at h
 split at h
 ·
  cases h
 ·
  cases h; rfl
theorem goneF_ent (wh : Int → Int → Bool) (b : LB) : goneF wh b.ent = if wh b.port b.age = true then none else some b.ent := rfl
theorem goneF_enc (wh : Int → Int → Bool) : ∀ m : List LB, (encL m).filterMap (goneF wh) = encL (m.filter fun b => !wh b.port b.age)
 | [] => rfl
 | b :: m => by
  have ih := goneF_enc wh m
  unfold encL at ih ⊢
  rw [List.map_cons, List.filterMap_cons, goneF_ent, List.filter_cons]
  cases h : wh b.port b.age with
  | true => simpa [h] using ih
  | false => simp [h, ih]
theorem mem_encL {m : List LB} {p : KV} (h : p ∈ encL m) : ∃ b ∈ m, p = b.ent := by
 obtain ⟨b, hb, e⟩ := List.mem_map.1 h
 exact ⟨b, hb, e.symm⟩
theorem lGone_any (g : Nat) (lb : Array Value) (eg : ∀ args w, (callFunc g args).run Tryz.prog w = .ok (.enter g args) w) (wh : Int → Int → Bool) (w : World) {T M : Nat} {ageing : Int} {lv : Value} {m : List LB} (h : LerT w T M ageing lv m) (hTM : T ≠ M) (hd : DistL m) (hml : m.length ≤ 1000000)
  (hc : ∀ (port age : Int) (W : World), BelowBut w.heap.size M w W → Calls Tryz.prog g (#[.agg #[Value.int .i64 port, Value.int .i64 age, Value.bool false]] ++ lb) W fun e W' => e = .returned (.bool (wh port age)) ∧ Below W.heap.size W W') :
  Calls Tryz.prog 112 #[.pointer (some ⟨T, 0, none⟩), .func (.func g) #[] lb] w fun e w' => (∃ n : Nat, e = .returned (.int .i64 n) ∧ n + (m.filter fun b => !wh b.port b.age).length = m.length) ∧ BelowBut w.heap.size M w w' ∧ LerT w' T M ageing lv (m.filter fun b => !wh b.port b.age) := by
 have hr := h.row
 have hlt := h.lt
 have hMlt := h.ok.lt
 have hnd0 := (encL_nodup m).2 hd
 have hok0 := okL_all m
 obtain ⟨o, hrun, hit⟩ := run_range map_learn h.ok
 obtain ⟨w0, hw0⟩ : ∃ x, w.alloc o = x := ⟨_, rfl⟩
 rw [hw0] at hrun hit
 have B0 : Below w.heap.size w w0 := by rw [← hw0]; exact ba_
 have z0 : w0.heap.size = w.heap.size + 1 := by rw [← hw0]; simp
 have hM0 := mapOk_below B0 hMlt h.ok
 have hL0 : mapL w0 M = progV (goneF wh) (fun _ => true) (encL m) := by rw [mapL_below B0 hMlt, h.map, progV_start]
 have hn0 : 0 + (progV (goneF wh) (fun _ => true) (encL m)).length = m.length := by rw [progV_start, encL, List.length_map, Nat.zero_add]
 have hr0 := (row_below B0 hlt).trans hr
 have HL0 := h_ hL0
 have HN0 := h_ hn0
 have HND := h_ hnd0
 have HC := h_ hc
 clear hw0 h hL0 hn0 hnd0 hc
 go_enter Tryz.func112, Tryz.ntmps112
 go_wp2_with fail
 go_loopw [5] (fun sn wr => ∃ (left : Value → Bool) (n : Nat), sn = .int .i64 n ∧ n + (progV (goneF wh) left (encL m)).length = m.length ∧ iterOk wr w.heap.size M left ∧ mapOk wr M ∧ mapL wr M = progV (goneF wh) left (encL m) ∧ row wr T = #[.int .i64 ageing, lv, .map (some M)] ∧ BelowBut w.heap.size M w wr ∧ w.heap.size < wr.heap.size) (fun _ wr => leftN wr w.heap.size M)
 case atStart => exact ⟨fun _ => true, 0, rfl, HN0.out, hit, hM0, HL0.out, hr0, BelowBut.of B0, by omega⟩
 case round =>
  clear hrun hit hM0 HL0 HN0 hr0
  obtain ⟨left, n, rfl, hnn, hit, hM, hL, hra, hbb, hz⟩ := hrel
  have hn1 : (n : Int) ≤ 1000000 := by omega
  have hnd := progV_nodup (left := left) (goneF_keeps wh) HND.out
  have hka := progV_all (left := left) (ok := okA lsL) (goneF_keeps wh) hok0
  rw [← hL] at hnd hka
  have HNN := h_ hnn
  clear hnn
  rcases run_nextM key_learn hit hka hnd with ⟨hall, hrun⟩ | ⟨p, hp, hlp, w1, hrun, hT, hit1, hent⟩
  ·
   rw [hL] at hall
   have hend := progV_end (f := goneF wh) (left := left) (L := encL m) hall
   rw [goneF_enc] at hend
   rw [hend] at hL
   have HL := h_ hL
   have HE := h_ hend
   clear hL hall hnd hka hend
   go_wp2_with fail
   go_ret
   refine ⟨⟨n, rfl, ?_⟩, hbb, hra, hM, HL.out⟩
   have := HNN.out
   rw [HE.out, encL, List.length_map] at this
   exact this
  ·
   rw [hL] at hp
   have hpm := progV_mem (goneF_keeps wh) hp hlp
   obtain ⟨b, hb, rfl⟩ := mem_encL hpm
   have hstep := progV_step (f := goneF wh) (left := left) key_learn (goneF_keeps wh) HND.out hok0 hpm hlp
   have hstay := progV_stay (f := goneF wh) (left := left) key_learn (goneF_keeps wh) HND.out hok0 hpm hlp
   rw [goneF_ent] at hstep hstay
   obtain ⟨v, mac, port, age⟩ := b
   unfold LB.ent at hrun hent hlp hit1 hstep hstay hp hpm
   dsimp only at hlp hrun hit1 hent hstep hstay hp hpm
   have hL1 : mapL w1 M = progV (goneF wh) left (encL m) := (mapL_of_block (hT.block M (Ne.symm hit.ne))).trans hL
   have hM1 := (mapOk_of_block (hT.block M (Ne.symm hit.ne))).2 hM
   have hra1 := (hT.row (Nat.ne_of_lt hlt)).trans hra
   have z1 := hT.size
   have hlq : leftN w1 w.heap.size M < leftN wr w.heap.size M := by
    rw [hit1.left_eq, hit.left_eq, hL1, hL]
    refine filter_lt (f := fun q : Value × Value => left q.1) (g := fun q => !sameA (lkV v mac) q.1) (x := (lkV v mac, lvV port age)) hp hlp ?_
    dsimp only
    rw [key_learn.refl _ (okL _ _)]
    rfl
   have hdl := delV_length key_learn (okL v mac) (L := progV (goneF wh) left (encL m)) ⟨_, hp, rfl⟩
   have hbb1 : BelowBut w.heap.size M w w1 := hbb.trans ⟨hT.os, hT.tape, hT.output, by omega, fun k hk hn => hT.block k (by omega)⟩
   unfold lkV lvV at hrun hent
   have HL1 := h_ hL1
   have HLQ := h_ hlq
   have HST := h_ hstep
   have HSY := h_ hstay
   have HDL := h_ hdl
   clear hL1 hlq hb hlp hp hpm hnd hka hL hbb hstep hstay hdl
   have HIT := h_ hit1
   have hne := hit1.ne
   have hrl := hit1.lt
   clear hit1
   obtain ⟨w2, hw2⟩ : ∃ x, (w1.alloc (.cells (Value.int .i64 v :: u8v mac).toArray 270)).alloc (.cells #[Value.int .i64 port, Value.int .i64 age, Value.bool false] 272) = x := ⟨_, rfl⟩
   have rX : row w2 wr.heap.size = (Value.int .i64 v :: u8v mac).toArray := by rw [← hw2]; simp [go_sem, z1]
   have rY : row w2 (wr.heap.size + 1) = #[Value.int .i64 port, Value.int .i64 age, Value.bool false] := by rw [← hw2]; simp [go_sem, z1]
   have z2 : w2.heap.size = wr.heap.size + 2 := by rw [← hw2]; simp; omega
   have b12 : Below w1.heap.size w1 w2 := by rw [← hw2]; exact Below.alloc (Below.alloc (Below.refl _ _) (by omega) _) (by simp) _
   have rA2 := (row_below b12 (by omega)).trans hra1
   have hbb2 : BelowBut w.heap.size M w w2 := hbb1.trans (BelowBut.of (b12.mono (by omega)))
   have hcall := HC.out port age w2 hbb2
   have HCL := h_ hcall
   clear hcall hbb1
   go_wp2_with fail
   clear hw2
   refine HCL.out.mono ?_
   rintro e w3 ⟨rfl, b23⟩
   have z3 := b23.size
   have hbb3 : BelowBut w.heap.size M w w3 := hbb2.trans (BelowBut.of (b23.mono (by omega)))
   have b13 := b12.trans (b23.mono (by omega))
   have rA3 := (row_below b23 (by omega)).trans rA2
   have rX3 := (row_below b23 (by omega)).trans rX
   have hM3 := mapOk_below b13 (by omega) hM1
   have hL3 := (mapL_below b13 (by omega)).trans HL1.out
   have hit3 := HIT.out.kept (b13.block M (by omega)) (b13.block w.heap.size (by omega))
   have hl3 : leftN w3 w.heap.size M < leftN wr w.heap.size M := by
    rw [leftN_kept (b13.block M (by omega)) (b13.block _ (by omega))]
    exact HLQ.out
   have HL3 := h_ hL3
   have HIT3 := h_ hit3
   have HLQ3 := h_ hl3
   clear HCL hL3 hit3 hl3 b12 b23 b13 hbb2 rX rY rA2 hrun hent
   cases hw : wh port age with
   | false =>
    rw [hw] at HSY
    have HW := h_ hw
    clear hw
    go_wp2_with fail
    go_roundw
    case rel => exact ⟨_, n, rfl, by rw [← HSY.out rfl]; exact HNN.out, HIT3.out, hM3, by rw [HL3.out]; exact HSY.out rfl, rA3, hbb3, by omega⟩
    case measure => exact HLQ3.out
   | true =>
    rw [hw] at HST
    have HW := h_ hw
    clear hw
    go_wp2_with fail
    refine rgR_ [(T, #[Value.int .i64 ageing, lv, Value.map (some M)]), (wr.heap.size, (Value.int .i64 v :: u8v mac).toArray)] (fun hS => ?_)
    refine qp 0 hS ?_
    refine qp 1 hS ?_
    refine qp 2 hS ?_
    refine qp 3 hS ?_
    refine qp 4 hS ?_
    refine wpAnyR_one (i := 5) opt_ rfl kr_ (fun w7 b7 => ?_)
    replace b7 := below_step (Below.drew (Below.refl _ _)) b7
    have z7 := b7.size
    have hM7 := mapOk_below b7 (by omega) hM3
    have hL7 := (mapL_below b7 (by omega)).trans HL3.out
    obtain ⟨w8, hrun8, hT8, hM8, hL8, hold8⟩ := run_del (ty := 0) key_learn map_learn hM7 (okL v mac) (by rw [hL7]; exact progV_all (goneF_keeps wh) hok0)
    obtain ⟨hit8, hl8⟩ := (HIT3.out.kept (b7.block M (by omega)) (b7.block _ (by omega))).del hT8 hold8
    rw [hL7, HST.out.2 rfl] at hL8
    have HL8 := h_ hL8
    have HIT8 := h_ hit8
    have hl8' : leftN w8 w.heap.size M < leftN wr w.heap.size M := by
     refine Nat.lt_of_le_of_lt hl8 ?_
     rw [leftN_kept (b7.block M (by omega)) (b7.block _ (by omega))]
     exact HLQ3.out
    have HLQ8 := h_ hl8'
    clear hL7 hL8 hit8 hl8 hold8 hl8'
    unfold lkV at hrun8
    have z8 := hT8.size
    have rA8 : row w8 T = #[Value.int .i64 ageing, lv, Value.map (some M)] := by rw [hT8.row hTM, row_below b7 (by omega), rA3]
    have rX8 : row w8 wr.heap.size = (Value.int .i64 v :: u8v mac).toArray := by rw [hT8.row (by omega), row_below b7 (by omega), rX3]
    refine ⟨.value (.tuple #[]), .tuple #[], w8, ?_, rfl, ⟨rA8, by omega, rX8, by omega, trivial⟩, ?_⟩
    ·
     go_simp
     try rfl
    ·
     refine wpAnyR_done kr_ (fun w9 b9 => ?_) _
     have z9 := b9.size
     have rA9 : row w9 T = #[Value.int .i64 ageing, lv, Value.map (some M)] := by rw [row_below b9 (by omega), rA8]
     have hM9 := mapOk_below b9 (by omega) hM8
     have hL9 := (mapL_below b9 (by omega)).trans HL8.out
     have HL9 := h_ hL9
     have hbb9 : BelowBut w.heap.size M w w9 := hbb3.trans ⟨by rw [b9.os, hT8.os, b7.os], by rw [b9.tape, hT8.tape, b7.tape], by rw [b9.output, hT8.output, b7.output], by omega, fun k hk hn => by rw [b9.block k (by omega), hT8.block k hn, b7.block k (by omega)]⟩
     have hit9 := HIT8.out.kept (b9.block M (by omega)) (b9.block w.heap.size (by omega))
     have hl9 : leftN w9 w.heap.size M < leftN wr w.heap.size M := by
      rw [leftN_kept (b9.block M (by omega)) (b9.block _ (by omega))]
      exact HLQ8.out
     have HIT9 := h_ hit9
     have HLQ9 := h_ hl9
     clear hL9 hrun8 hit9 hl9 b9 hS
     go_wp2_with fail
     go_roundw
     case rel => exact ⟨_, n + 1, by simp, by have h1 := HNN.out; have h2 := HDL.out; rw [← HST.out.2 rfl]; omega, HIT9.out, hM9, HL9.out, rA9, hbb9, by omega⟩
     case measure => exact HLQ9.out
end
section
open Go.RowKit Go.Shelf
attribute [local go_sem] Oper.semAt_some
def LB.pa (b : LB) : Int × Int := (b.port, b.age)
def paV (x : Int × Int) : Value := .agg #[Value.int .i64 x.1, Value.int .i64 x.2, Value.bool false]
def cameL (left : Value → Bool) (m : List LB) : List LB := m.filter fun b => !left (lkV b.v b.mac)
theorem came_step (left : Value → Bool) (b : LB) (hl : left (lkV b.v b.mac) = true) : ∀ {m : List LB}, DistL m → b ∈ m → (cameL (fun z => left z && !sameA (lkV b.v b.mac) z) m).Perm (b :: cameL left m)
 | [], _, h => by cases h
 | c :: m, hd, h => by
  rw [DistL, List.pairwise_cons] at hd
  by_cases hc : c.is b.v b.mac = true
  ·
   have hcb : c = b := by
    rcases List.mem_cons.1 h with e | e
    ·
     exact e.symm
    ·
     have := hd.1 b e
     rw [this] at hc
     cases hc
   subst hcb
   have e1 : cameL (fun z => left z && !sameA (lkV c.v c.mac) z) (c :: m) = c :: cameL (fun z => left z && !sameA (lkV c.v c.mac) z) m := by
    unfold cameL
    rw [List.filter_cons_of_pos (by simp [sameL, hc])]
   have e2 : cameL left (c :: m) = cameL left m := by
    unfold cameL
    rw [List.filter_cons, hl]
    simp
   have e3 : cameL (fun z => left z && !sameA (lkV c.v c.mac) z) m = cameL left m := by
    unfold cameL
    refine List.filter_congr fun d hd2 => ?_
    dsimp only
    rw [sameL]
    have := hd.1 d hd2
    have h2 : d.is c.v c.mac = false := by
     simp only [LB.is, Bool.and_eq_false_iff, beq_eq_false_iff_ne, ne_eq] at this ⊢
     rcases this with h | h
     ·
      exact .inl fun e => h e.symm
     ·
      exact .inr fun e => h e.symm
    rw [h2]
    simp
   rw [e1, e2, e3]
  ·
   have hbm : b ∈ m := by
    rcases List.mem_cons.1 h with e | e
    ·
     subst e
     exact absurd (by simp [LB.is]) hc
    ·
     exact e
   have ih := came_step left b hl hd.2 hbm
   have hc2 : c.is b.v b.mac = false := by simpa using hc
   unfold cameL at ih ⊢
   cases hlc : left (lkV c.v c.mac) with
   | true =>
    rw [List.filter_cons_of_neg (by simp [sameL, hc2, hlc]), List.filter_cons_of_neg (by simp [hlc])]
    exact ih
   | false =>
    rw [List.filter_cons_of_pos (by simp [hlc]), List.filter_cons_of_pos (by simp [hlc])]
    exact (List.Perm.cons c ih).trans (List.Perm.swap b c _)
set_option maxRecDepth 100000 in
theorem vals1_in (F : Fence) (n : Nat) (h8 : F.fn 280) (hro : F.round = none) (hn : 1 ≤ n) (l Bm M : Nat) (m : List LB) (J Jx : List (Int × Int) → World → Prop)
  (hY : ∀ pre x W, J pre W → pre.length < m.length → YieldAt F (n - 1) Tryz.prog l #[paV x] W fun e W' =>
   (e = .returned (.bool true) ∧ J (pre ++ [x]) W' ∧ KeepsWalks W W') ∨ (e = .returned (.bool false) ∧ Jx (pre ++ [x]) W'))
  (W : World) (hJ : AbidesFrom W.heap.size J) (hm : W.cell? ⟨Bm, 0, none⟩ = some (.map (some M))) (hok : mapOk W M) (hL0 : mapL W M = encL m) (hd : DistL m) (h0 : J [] W) :
  CallsIn F n Tryz.prog 280 #[.func (.yield l) #[] #[], .pointer (some ⟨Bm, 0, none⟩)] W fun e W' => (∃ v, e = .returned v) ∧
   ((∃ xs, xs.Perm (m.map LB.pa) ∧ J xs W') ∨ (∃ pre, True ∧ Jx pre W')) := by
 have hnd := (encL_nodup m).2 hd
 obtain ⟨o, hrun, hit⟩ := run_range map_learn hok
 have hMlt := hok.lt
 obtain ⟨w0, hw0⟩ : ∃ x, W.alloc o = x := ⟨_, rfl⟩
 have hJ0 : J [] w0 := by rw [← hw0]; exact hJ [] W _ none h0 (World.grownBy_alloc W o none) (fun r e => by cases e)
 have B0 : Below W.heap.size W w0 := by rw [← hw0]; exact ba_
 have hok0 := mapOk_below B0 hMlt hok
 have hL1 : mapL w0 M = encL m := by rw [mapL_below B0 hMlt, hL0]
 rw [hw0] at hrun hit
 clear hok hL0 h0 hw0
 refine callsIn_of_wp Tryz.func280 rfl h8 ?_ hro
 simp only [Tryz.ntmps280, List.size_toArray, List.length_cons, List.length_nil, Nat.reduceAdd, Nat.reduceSub, Array.replicate_succ, Array.replicate_zero, List.push_toArray, List.append_toArray, List.nil_append, List.cons_append]
 gi_wp2
 gi_loopw [4] (fun _ wr => ∃ (left : Value → Bool) (pre : List (Int × Int)), iterOk wr W.heap.size M left ∧ mapOk wr M ∧ mapL wr M = encL m ∧ pre.Perm ((cameL left m).map LB.pa) ∧ J pre wr) (fun _ wr => leftN wr W.heap.size M)
 case atStart =>
  refine ⟨fun _ => true, [], hit, hok0, hL1, ?_, hJ0⟩
  have : cameL (fun _ => true) m = [] := by unfold cameL; simp
  rw [this]
  exact List.Perm.refl _
 case round =>
  clear hrun hit hok0 hL1 hJ0
  obtain ⟨left, pre, hit, hok, hL, hP, hJs⟩ := hrel
  rcases run_nextM key_learn hit (by rw [hL]; exact okL_all m) (by rw [hL]; exact hnd) with ⟨hall, hrun⟩ | ⟨p, hp, hlp, w1, hrun, hT, hit1, hent⟩
  ·
   have hP2 : pre.Perm (m.map LB.pa) := by
    have : cameL left m = m := by
     unfold cameL
     rw [List.filter_eq_self]
     intro b hb
     have h1 := hall b.ent (by rw [hL]; exact List.mem_map_of_mem hb)
     have h2 : left (lkV b.v b.mac) = false := h1
     rw [h2]
     rfl
    rwa [this] at hP
   have HP := h_ hP2
   have HJ := h_ hJs
   clear hall hL hP hP2 hJs hit hok hJ hY
   gi_wp2
   go_end0
   exact ⟨⟨_, rfl⟩, .inl ⟨pre, HP.out, HJ.out⟩⟩
  ·
   rw [hL] at hp
   obtain ⟨b, hb, rfl⟩ := mem_encL hp
   have hs := came_step left b hlp hd hb
   have hP2 : (pre ++ [b.pa]).Perm ((cameL (fun z => left z && !sameA (lkV b.v b.mac) z) m).map LB.pa) := by
    refine List.Perm.trans ?_ (hs.map LB.pa).symm
    rw [List.map_cons]
    exact (List.perm_append_comm (l₁ := pre) (l₂ := [b.pa])).trans (List.Perm.cons _ hP)
   have hlen : pre.length < m.length := by
    have h1 := hP2.length_eq
    rw [List.length_append, List.length_map, List.length_singleton] at h1
    have h2 : (cameL (fun z => left z && !sameA (lkV b.v b.mac) z) m).length ≤ m.length := List.length_filter_le _ _
    omega
   have hgr : wr.grownBy w1 (some W.heap.size) := ⟨hT.os, hT.tape, hT.output, Nat.le_of_eq hT.size.symm, fun k _ hn => hT.block k fun e => hn (by rw [e])⟩
   have hwalk : ∃ o : Obj, wr.heap[W.heap.size]? = some o ∧ o.isWalk = true := by
    obtain ⟨es, cl, si, se, c0, _, h2, _⟩ := hit
    exact ⟨_, h2, rfl⟩
   have hJ1 : J pre w1 := hJ pre wr w1 _ hJs hgr (fun r e => by cases e; exact ⟨Nat.le_refl _, hwalk⟩)
   have hne := hit1.ne
   have hL1 : mapL w1 M = encL m := (mapL_of_block (hT.block M (Ne.symm hne))).trans hL
   have hok1 := (mapOk_of_block (hT.block M (Ne.symm hne))).2 hok
   obtain ⟨w2, hw2⟩ : ∃ x, w1.alloc (.cells #[Value.int .i64 b.port, Value.int .i64 b.age, Value.bool false] 272) = x := ⟨_, rfl⟩
   have hJ2 : J pre w2 := by rw [← hw2]; exact hJ pre w1 _ none hJ1 (World.grownBy_alloc w1 _ none) (fun r e => by cases e)
   have rP : row w2 w1.heap.size = #[Value.int .i64 b.port, Value.int .i64 b.age, Value.bool false] := by rw [← hw2]; exact row_alloc_at _ _ _ rfl
   have b12 : Below w1.heap.size w1 w2 := by rw [← hw2]; exact ba_
   have hml : M < w1.heap.size := hok1.lt
   have hrl := hit1.lt
   have hlq : leftN w1 W.heap.size M < leftN wr W.heap.size M := by
    rw [hit1.left_eq, hit.left_eq, hL1, hL]
    refine filter_lt (f := fun q : Value × Value => left q.1) (g := fun q => !sameA b.ent.1 q.1) (x := b.ent) hp hlp ?_
    have : sameA b.ent.1 b.ent.1 = true := key_learn.refl _ (okL _ _)
    rw [this]
    rfl
   obtain ⟨fn, tmps, assign, body, hy, hR⟩ := hY pre b.pa w2 hJ2 hlen
   unfold paV LB.pa at hy
   unfold LB.ent lkV lvV at hrun hent
   dsimp only at hrun hent hy
   have HP := h_ hP2
   have HLQ := h_ hlq
   have HIT := h_ hit1
   have HOK := h_ hok1
   have HL1 := h_ hL1
   have HR := h_ hR
   clear hP hP2 hlq hit1 hok1 hL1 hR hL hok hit hp hlp hs hJs hJ1 hJ2 hY hgr hwalk
   gi_wp2
   clear hw2
   refine HR.out.mono ?_
   rintro e W3 (⟨rfl, hJ3, hk3⟩ | ⟨rfl, hJx3⟩)
   ·
    obtain ⟨es, cl, g1, g2, g3⟩ := HOK.out
    obtain ⟨es', cl', si, se, c0, q1, q2, q3⟩ := HIT.out
    have e2M : w2.heap[M]? = w1.heap[M]? := b12.block M hml
    have e2r : w2.heap[W.heap.size]? = w1.heap[W.heap.size]? := b12.block _ hrl
    have e3M : W3.heap[M]? = w1.heap[M]? := by rw [g1]; exact hk3.same M _ (e2M.trans g1) rfl
    have e3r : W3.heap[W.heap.size]? = w1.heap[W.heap.size]? := by rw [q2]; exact hk3.same _ _ (e2r.trans q2) rfl
    have hit3 := HIT.out.kept e3M e3r
    have hok3 := (mapOk_of_block e3M).2 HOK.out
    have hL3 := (mapL_of_block e3M).trans HL1.out
    have hl3 : leftN W3 W.heap.size M < leftN wr W.heap.size M := by rw [leftN_kept e3M e3r]; exact HLQ.out
    have HIT3 := h_ hit3
    have HOK3 := h_ hok3
    have HL3 := h_ hL3
    have HLQ3 := h_ hl3
    have HJ3 := h_ hJ3
    clear hit3 hok3 hL3 hl3 hJ3 g1 g2 g3 q1 q2 q3 e2M e2r e3M e3r hrun hent
    gi_wp2
    go_roundw
    case rel => exact ⟨_, _, HIT3.out, HOK3.out, HL3.out, HP.out, HJ3.out⟩
    case measure => exact HLQ3.out
   ·
    have HJX := h_ hJx3
    clear hJx3 hrun hent
    gi_wp2
    refine bodyPost_ret (results_none rfl _ _ _) rfl ?_
    exact ⟨⟨_, rfl⟩, .inr ⟨_, trivial, HJX.out⟩⟩
theorem vals_in (F : Fence) (n : Nat) (h8 : F.fn 240) (hro : F.round = none) (mb : Option Nat) (w : World) :
  CallsIn F n Tryz.prog 240 #[.map mb] w fun e w' => e = .returned (.func (.func 280) #[] #[.pointer (some ⟨w.heap.size, 0, none⟩)]) ∧ w' = w.alloc (.cells #[.map mb] 266) := by
 refine callsIn_of_wp Tryz.func240 rfl h8 ?_ hro
 simp only [Tryz.ntmps240, List.size_toArray, List.length_cons, List.length_nil, Nat.reduceAdd, Nat.reduceSub, Array.replicate_succ, Array.replicate_zero, List.push_toArray, List.append_toArray, List.nil_append, List.cons_append]
 gi_wp2
 go_ret
 exact ⟨rfl, rfl⟩
theorem vals_stops (F : Fence) (n : Nat) (h8 : F.fn 280) (hro : F.round = none) (hn : 1 ≤ n) (Bm M : Nat) (m : List LB) (w : World) (hBm : Bm < w.heap.size)
  (hm : w.cell? ⟨Bm, 0, none⟩ = some (.map (some M))) (hok : mapOk w M) (hL : mapL w M = encL m) (hd : DistL m) :
  SeqStopsK F n Tryz.prog 280 #[.pointer (some ⟨Bm, 0, none⟩)] (fun x : Int × Int => #[paV x]) KeepsWalks (fun xs => xs.Perm (m.map LB.pa)) (fun _ => True) m.length w := fun l J Jx W hW hJ _ hY h0 =>
 vals1_in F n h8 hro hn l Bm M m J Jx hY W hJ ((hW.cell (p := ⟨Bm, 0, none⟩) hBm).trans hm) (mapOk_below hW hok.lt hok) ((mapL_below hW hok.lt).trans hL) hd h0
end
section
open Go.RowKit Go.Shelf
attribute [local go_sem] Oper.semAt_some
theorem row_cells {W : World} {b : Nat} (h : 0 < (row W b).size) {o : Obj} (ho : W.heap[b]? = some o) : o.isCells = true := by
 obtain ⟨t, fr, hb⟩ := row_block h
 rw [hb] at ho
 cases ho
 rfl
theorem row_own {W W' : World} {b : Nat} {c : Array Value} {r : Option Nat} (h : row W b = c) (h0 : 0 < c.size) (hg : W.grownBy W' r) (hr : ∀ j, r = some j → ∃ o : Obj, W.heap[j]? = some o ∧ o.isCells = false) : row W' b = c := by
 rw [← h]
 refine row_of_block (hg.block b (lt_of_row (i := 0) (by rw [h]; exact h0)) fun e => ?_)
 obtain ⟨o, ho, hc⟩ := hr b e.symm
 rw [row_cells (by rw [h]; exact h0) ho] at hc
 cases hc
theorem KeepsOthers.setRow (W : World) (b : Nat) (c : Array Value) : KeepsOthers W (W.setRow b c) := by
 refine ⟨by simp, fun k o hk ho => ?_⟩
 by_cases h : k = b
 ·
  subst h
  simp only [World.setRow, Array.getElem?_modify, if_pos rfl, hk, Option.map_some]
  cases o <;> first | rfl | (simp [Obj.isCells] at ho)
 ·
  rw [setRow_other _ _ _ _ h]
  exact hk
def onP (port : Int) (pre : List (Int × Int)) : Nat := (pre.filter fun x => x.1 == port).length
theorem onP_snoc (port : Int) (pre : List (Int × Int)) (x : Int × Int) : onP port (pre ++ [x]) = onP port pre + (if x.1 == port then 1 else 0) := by
 unfold onP
 rw [List.filter_append, List.length_append]
 congr 1
 cases h : x.1 == port <;> simp [List.filter_cons, h]
theorem onP_le (port : Int) (pre : List (Int × Int)) : onP port pre ≤ pre.length := List.length_filter_le _ _
theorem onP_perm {port : Int} {xs : List (Int × Int)} {m : List LB} (h : xs.Perm (m.map LB.pa)) : onP port xs = onL port m := by
 unfold onP onL
 rw [(h.filter _).length_eq, List.filter_map, List.length_map]
 rfl
set_option maxRecDepth 100000 in
theorem lOn_any (w : World) {T M : Nat} {ageing : Int} {lv : Value} {m : List LB} (h : LerT w T M ageing lv m) (hd : DistL m) (hml : m.length ≤ 1000000) (port : Int) :
  Calls Tryz.prog 188 #[.pointer (some ⟨T, 0, none⟩), .int .i64 port] w fun e w' => e = .returned (.int .i64 (onL port m : Int)) ∧ Below w.heap.size w w' := by
 have hr := h.row
 have hlt := h.lt
 have hMlt := h.ok.lt
 refine (callsIn_wide (n := 6)).1 ?_
 have h1 : Fence.wide.fn 240 := trivial
 have h2 : Fence.wide.fn 280 := trivial
 have hro : Fence.wide.round = none := rfl
 refine callsIn_of_wp_marks Tryz.func188 rfl trivial ?_ hro
 simp only [Tryz.ntmps188, List.size_toArray, List.length_cons, List.length_nil, Nat.reduceAdd, Nat.reduceSub, Array.replicate_succ, Array.replicate_zero, List.push_toArray, List.append_toArray, List.nil_append, List.cons_append]
 obtain ⟨W0, hW0⟩ : ∃ W0, ((w.alloc (.cells #[.int .i64 port] 3)).alloc (.cells #[.int .i64 0] 3)).alloc (.cells #[.map (some M)] 266) = W0 := ⟨_, rfl⟩
 have rP : row W0 w.heap.size = #[.int .i64 port] := by rw [← hW0]; simp [go_sem]
 have rN : row W0 (w.heap.size + 1) = #[.int .i64 0] := by rw [← hW0]; simp [go_sem]
 have rM : row W0 (w.heap.size + 1 + 1) = #[.map (some M)] := by rw [← hW0]; simp [go_sem]
 have zW : W0.heap.size = w.heap.size + 3 := by rw [← hW0]; simp
 have bW : Below w.heap.size w W0 := by rw [← hW0]; exact Below.alloc (Below.alloc (ba_) (by simp) _) (by simp; omega) _
 have hT := h.below bW hlt hMlt
 gi_wp2_with (gi_at_call 240; refine (vals_in Fence.wide _ h1 hro _ _).mono ?_; rintro e w' ⟨rfl, rfl⟩)
 (try rw [hW0])
 clear hW0
 have hcm : W0.cell? ⟨w.heap.size + 1 + 1, 0, none⟩ = some (.map (some M)) := by rw [cell_of_row' (by rw [rM]; simp), rM]; rfl
 refine wpIn_rangeFunc_ownH (α := Int × Int) hro (by omega) (gf := 280) (lb := #[.pointer (some ⟨w.heap.size + 1 + 1, 0, none⟩)]) rfl h2 (enters_of Tryz.func280 kr_ rfl)
  (vals_stops Fence.wide _ h2 hro (by omega) (w.heap.size + 1 + 1) M m W0 (by omega) hcm hT.ok hT.map hd) walksK_t walksK_b (Below.refl _ _) (fun _ => rfl)
  (fun pre W => (row W w.heap.size = #[.int .i64 port] ∧ row W (w.heap.size + 1) = #[.int .i64 (onP port pre : Int)]) ∧ Below w.heap.size w W)
  (fun _ _ _ => False)
  (OwnFrom.and (fun s A B r hs hg hr => ⟨row_own hs.1 (by simp) hg fun j e => (hr j e).2, row_own hs.2 (by simp) hg fun j e => (hr j e).2⟩) (ownFrom_below (Nat.le_refl _) (by omega)))
  (fun _ _ _ _ _ hs _ _ => hs)
  ⟨⟨rP, rN⟩, bW⟩
  (fun x a' W => ∃ Bx, w.heap.size + 1 < Bx ∧ row W Bx = #[Value.int .i64 x.1, Value.int .i64 x.2, Value.bool false] ∧ a' = { tmps := #[.pointer (some ⟨T, 0, none⟩), .int .i64 port, undef, .pointer (some ⟨w.heap.size, 0, none⟩), .int .i64 0, .pointer (some ⟨w.heap.size + 1, 0, none⟩), .pointer (some ⟨Bx, 0, none⟩), .pointer (some ⟨T, 0, none⟩), .pointer (some ⟨T, 0, none⟩), .pointer (some ⟨T, 2, none⟩), .map (some M), .func (.func 280) #[] #[.pointer (some ⟨w.heap.size + 1 + 1, 0, none⟩)], paV x, undef, undef, undef, undef, undef, undef, undef, undef, undef, undef, undef, undef], defers := [] })
  (fun x a' _ X Y r hs hg hr => by obtain ⟨Bx, g1, g2, g3⟩ := hs; exact ⟨Bx, g1, row_own g2 (by simp) hg fun j e => (hr j e).2, g3⟩)
  ?assign ?body ?done ?stop
 case assign =>
  rintro l pre x W K ⟨⟨i1, i2⟩, hB1⟩ hK
  obtain ⟨x1, x2⟩ := x
  unfold paV at *
  dsimp only at hK ⊢
  have hs1 : w.heap.size + 1 < W.heap.size := lt_of_row (i := 0) (by rw [i2]; simp)
  have hfin := hK _ (W.alloc (.cells #[Value.int .i64 x1, Value.int .i64 x2, Value.bool false] 272)) ((KeepsOthers.alloc _ _).from _) (KeepsOthers.alloc _ _).walks ⟨⟨by rw [row_alloc_past _ _ (by omega)]; exact i1, by rw [row_alloc_past _ _ hs1]; exact i2⟩, hB1.alloc hB1.size _⟩ ⟨W.heap.size, hs1, row_alloc_at _ _ _ rfl, rfl⟩
  have HF := h_ hfin
  clear hfin hK
  gi_wp2
  exact HF.out
 case body =>
  rintro l pre x a' W hl ⟨r, hr⟩ ⟨⟨i1, i2⟩, hB1⟩ ⟨Bx, hBx, bX, rfl⟩ hlt
  obtain ⟨x1, x2⟩ := x
  unfold paV
  dsimp only at bX ⊢
  have hs1 : w.heap.size + 1 < W.heap.size := lt_of_row (i := 0) (by rw [i2]; simp)
  have hbl : Bx < W.heap.size := lt_of_row (i := 0) (by rw [bX]; simp)
  have hle := onP_le port pre
  obtain ⟨c, hc⟩ : ∃ c, onP port pre = c := ⟨_, rfl⟩
  rw [hc] at i2 hle
  have HC := h_ hc
  clear hc
  have hcI : (c : Int) ≤ 1000000 := by omega
  by_cases hp : x1 = port
  ·
   subst hp
   have hn : onP x1 (pre ++ [(x1, x2)]) = c + 1 := by rw [onP_snoc, HC.out]; simp
   have HN := h_ hn
   clear hn
   gi_wp2
   exact ⟨(KeepsOthers.setRow _ _ _).from _, (KeepsOthers.setRow _ _ _).walks, ⟨by rw [row_setRow_other _ _ _ (by omega)]; exact i1, by rw [HN.out, row_setRow_same (by rw [i2]; simp) (by rw [i2]; rfl)]; rfl⟩, Below.setRow hB1 (by omega) _⟩
  ·
   have hp2 : (x1 == port) = false := by simpa using hp
   have hn : onP port (pre ++ [(x1, x2)]) = c := by rw [onP_snoc, HC.out]; simp [hp]
   have HN := h_ hn
   clear hn
   gi_wp2
   exact ⟨(KeepsOthers.refl _).from _, (KeepsOthers.refl _).walks, ⟨i1, by rw [HN.out]; exact i2⟩, hB1⟩
 case done =>
  rintro D xs W hD hperm ⟨⟨i1, i2⟩, hB1⟩ hK
  rw [onP_perm hperm] at i2
  gi_wp2
  refine ⟨by simp, .inl ⟨_, _, rfl, run_takeDeferred hK, ?_⟩⟩
  exact ⟨_, results_tmp rfl _ _ _, rfl, hB1.trans (belowK_b (w := w) (Nat.le_refl _) W D _ _ (by omega) hK rfl rfl)⟩
 case stop =>
  rintro D c pre W _ _ h _
  exact h.elim
end
section
open Go.RowKit Go.Shelf
theorem lDrop1_any (x port age : Int) (b : Nat) (w : World) (hb : row w b = #[.int .i64 x]) :
  Calls Tryz.prog 178 #[.agg #[Value.int .i64 port, Value.int .i64 age, Value.bool false], .pointer (some ⟨b, 0, none⟩)] w fun e w' => e = .returned (.bool (port == x)) ∧ Below w.heap.size w w' := by
 have hlt : b < w.heap.size := lt_of_row (i := 0) (by rw [hb]; simp)
 go_enter Tryz.func178, Tryz.ntmps178
 go_wp2_with fail
 go_ret
 exact ⟨rfl, ba_⟩
section
variable (w : World) {T M : Nat} {ageing : Int} {lv : Value} {m : List LB}
theorem but_row {B M b : Nat} {w W : World} (h : BelowBut B M w W) (hb : b < B) (hn : b ≠ M) {c : Array Value} (hr : row w b = c) : row W b = c := (row_of_block (h.block b hb hn)).trans hr
theorem lDrop_any (h : LerT w T M ageing lv m) (hTM : T ≠ M) (hd : DistL m) (hml : m.length ≤ 1000000) (port : Int) :
  Calls Tryz.prog 125 #[.pointer (some ⟨T, 0, none⟩), .int .i64 port] w fun e w' => (∃ n : Nat, e = .returned (.int .i64 n)) ∧ BelowBut w.heap.size M w w' ∧ LerT w' T M ageing lv (dropL port m) := by
 have hlt := h.lt
 have hMlt := h.ok.lt
 go_enter Tryz.func125, Tryz.ntmps125
 obtain ⟨W, hW⟩ : ∃ W, w.alloc (.cells #[.int .i64 port] 3) = W := ⟨_, rfl⟩
 have bW : Below w.heap.size w W := by rw [← hW]; exact ba_
 have rP : row W w.heap.size = #[.int .i64 port] := by rw [← hW]; simp [go_sem]
 have zW : W.heap.size = w.heap.size + 1 := by rw [← hW]; simp
 have hT := h.below bW hlt hMlt
 have H := h_ (lGone_any 178 #[.pointer (some ⟨w.heap.size, 0, none⟩)] (enters_of Tryz.func178 kr_ rfl) (fun p _ => p == port) W hT hTM hd hml
  fun p a W2 hb => lDrop1_any port p a w.heap.size W2 (but_row hb (by omega) (by omega) rP))
 clear h hT
 go_wp2_with fail
 (try rw [hW])
 try clear hW
 (with_reducible refine H.out.mono ?_)
 rintro e w2 ⟨⟨n, rfl, hn⟩, b2, h2⟩
 clear H hn
 go_wp2_with fail
 go_ret
 exact ⟨⟨n, rfl⟩, (BelowBut.of bW).trans (b2.mono (by omega)), h2⟩
end
end
end Go.Proofs.YtfopoijikdmiaaaGreatDoor
