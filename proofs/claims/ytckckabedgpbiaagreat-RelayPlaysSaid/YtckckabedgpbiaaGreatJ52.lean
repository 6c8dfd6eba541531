/- Texts of this proof, merged: RpL, RpM, RpO, RpP, RpN, RlyWP. -/
import Derived.Test.YtckckabedgpbiaaGreatJ49
import Derived.Test.YtckckabedgpbiaaGreatJ50
import Derived.Test.YtckckabedgpbiaaGreatRpDJ
import Derived.Test.YtckckabedgpbiaaGreatJ47
import Derived.Test.YtckckabedgpbiaaGreatJ42
import Derived.Test.YtckckabedgpbiaaGreatJ44
set_option linter.unusedSimpArgs false
set_option linter.unusedVariables false
set_option maxRecDepth 4000
namespace Go.Proofs.YtckckabedgpbiaaGreat
section
open Go.RowKit Go.Shelf
theorem r22outInfo : (Tryz.prog.info? 52).map (fun i => (i.zero.map (·.cells.size), i.size, i.bytes)) = some (some 2, 2, 24) := by kernel_rfl
set_option maxRecDepth 20000 in
set_option maxHeartbeats 4000000 in
theorem r22goes_any (A : RefA) (x : RefS) (k : Nat) (v : Int) (dst src : Vector UInt8 6) (ty : Int) (body : List UInt8) (prio : Int) (w : World) (h : RPortsAt w A.pa x.rs) (hk : k < x.rs.length) (hn : x.rs.length ≤ 1000) (hb : body.length ≤ 1000000) :
  Calls Tryz.prog 45 #[.agg (refV A x).toArray, .int .i64 (k : Int), .int .i64 v, .agg (frameV dst src ty body).toArray, .int .i64 prio] w fun e w' => (∃ u, e = .returned u ∧ OwnL w' w.heap.size 52 2 u ((printedS x.rs[k].p k v dst src ty body prio).map outC)) ∧ Below w.heap.size w w' := by
 obtain ⟨pa, pcap, sa, scap, ba, bcap⟩ := A
 unfold refV frameV
 dsimp only at *
 have hkI : (k : Int) < (x.rs.length : Int) := by omega
 have hk0 : (0 : Int) ≤ (k : Int) := by omega
 have hnI : (x.rs.length : Int) ≤ 1000 := by omega
 obtain ⟨pb, po, ta, tc, rfl, hpb, hrd⟩ := h.get hk
 obtain ⟨p, hp⟩ : ∃ y, x.rs[k] = y := ⟨_, rfl⟩
 rw [hp] at hrd ⊢
 obtain ⟨o, ho⟩ : ∃ o, po + k * 5 = o := ⟨_, rfl⟩
 have gN0 : ∀ W, Below w.heap.size w W → W.cell? ⟨pb, o, none⟩ = some (.int .i64 p.p.native) := fun W hW => by rw [← ho]; exact (hrd W hW).1 0 _ rfl
 obtain ⟨nat, hnat⟩ : ∃ y, p.p.native = y := ⟨_, rfl⟩
 rw [hnat] at gN0
 have HN := Lib.hid hnat
 clear hrd hp hnat
 go_enter Tryz.func45, Tryz.ntmps45
 obtain ⟨W, hW⟩ : ∃ W, ((w.alloc (.cells #[.slice (some ⟨pb, po, none⟩) x.rs.length pcap, .int .i64 x.ageing, .slice sa x.st.length scap, .slice ba x.bi.length bcap, .int .i64 x.c0, .int .i64 x.c1, .int .i64 x.c2, .int .i64 x.c3, .int .i64 x.c4] 31)).alloc (.cells (u8v dst ++ (u8v src ++ [Value.int .i64 ty, .string ⟨body.toArray⟩])).toArray 67)).alloc (.cells (u8v dst ++ (u8v src ++ [Value.int .i64 ty, .string ⟨body.toArray⟩, .int .i64 v, .int .i64 prio])).toArray 101) = W := ⟨_, rfl⟩
 have bW : Below w.heap.size w W := by rw [← hW]; exact Below.alloc (Below.alloc (Below.alloc (Below.refl _ _) (Nat.le_refl _) _) (by simp) _) (by simp; omega) _
 have zW : W.heap.size = w.heap.size + 3 := by rw [← hW, alloc_sizeW, alloc_sizeW, alloc_sizeW]
 have rB : row W w.heap.size = #[.slice (some ⟨pb, po, none⟩) x.rs.length pcap, .int .i64 x.ageing, .slice sa x.st.length scap, .slice ba x.bi.length bcap, .int .i64 x.c0, .int .i64 x.c1, .int .i64 x.c2, .int .i64 x.c3, .int .i64 x.c4] := by rw [← hW]; simp [go_sem]
 have rF : row W (w.heap.size + 1) = (u8v dst ++ (u8v src ++ [Value.int .i64 ty, .string ⟨body.toArray⟩])).toArray := by rw [← hW]; simp [go_sem]
 have rX : row W (w.heap.size + 2) = (u8v dst ++ (u8v src ++ [Value.int .i64 ty, .string ⟨body.toArray⟩, .int .i64 v, .int .i64 prio])).toArray := by rw [← hW]; simp [go_sem]
 have gN := gN0 W bW
 cases e1 : (v == nat) with
 | true =>
  have HO := Lib.hid (show outP p.p.native v prio = (-1, 0) by rw [outP, HN.out, if_pos (by simpa using e1)])
  obtain ⟨w2, hw2⟩ : ∃ y, W.setRow (w.heap.size + 2) (u8v dst ++ (u8v src ++ [Value.int .i64 ty, .string ⟨body.toArray⟩, .int .i64 (-1), .int .i64 0])).toArray = y := ⟨_, rfl⟩
  have rX2 : row w2 (w.heap.size + 2) = (u8v dst ++ (u8v src ++ [Value.int .i64 ty, .string ⟨body.toArray⟩, .int .i64 (-1), .int .i64 0])).toArray := by rw [← hw2]; exact row_setRow_same (by rw [rX]; simp) (by rw [rX]; simp)
  have z2 : w2.heap.size = W.heap.size := by rw [← hw2, setRow_size]
  have zX2 : w.heap.size + 2 < w2.heap.size := by omega
  have c2 : Below w.heap.size w w2 := by rw [← hw2]; exact Below.setRow bW (by omega) _
  have HRT := Lib.hid (fun w => r08Right_any dst src ty body (-1) 0 w (by unfold maxLen; omega))
  cases hrb : rightB ty (-1) 0 body.length with
  | false =>
   rw [hrb] at HRT
   unfold ethV at HRT
   go_wp2_with fail
   (try rw [hW])
   (try clear hW)
   go_wp2_with fail
   (try rw [hw2])
   (try clear hw2)
   (with_reducible refine (HRT.out _).mono ?_)
   rintro e w3 ⟨rfl, b3⟩
   have c3 := c2.trans (b3.mono c2.size)
   go_wp2_with fail
   go_ret
   refine ⟨⟨_, rfl, ?_⟩, c3⟩
   unfold printedS
   rw [HO.out]
   dsimp only
   rw [if_neg (by rw [hrb]; decide)]
   exact OwnL.nil _ _ _ _
  | true =>
   have HPR := Lib.hid (fun w => r08Print_any dst src ty body (-1) 0 w hrb)
   rw [hrb] at HRT
   unfold ethV at HRT HPR
   obtain ⟨out, hout⟩ : ∃ y, ethS dst src ty body (-1) 0 = y := ⟨_, rfl⟩
   rw [hout] at HPR
   have HOUT := Lib.hid hout
   have HRB := Lib.hid hrb
   clear hout hrb
   go_wp2_with fail
   (try rw [hW])
   (try clear hW)
   go_wp2_with fail
   (try rw [hw2])
   (try clear hw2)
   (with_reducible refine (HRT.out _).mono ?_)
   rintro e w3 ⟨rfl, b3⟩
   have c3 := c2.trans (b3.mono c2.size)
   have rX3 := (row_below b3 zX2).trans rX2
   go_wp2_with fail
   (with_reducible refine (HPR.out _).mono ?_)
   rintro e w4 ⟨rfl, b4⟩
   have c4 := c3.trans (b4.mono c3.size)
   have HMD := Lib.hid (OwnL.made (w := w4) (B := w.heap.size) (e := 52) (sz := 2) [Value.int .i64 (k : Int), Value.string ⟨out.toArray⟩] rfl c4.size)
   go_wp2_with fail
   go_ret
   refine ⟨⟨_, rfl, ?_⟩, Below.alloc c4 c4.size _⟩
   unfold printedS
   rw [HO.out]
   dsimp only
   rw [if_pos HRB.out, HOUT.out]
   exact HMD.out
 | false =>
  have HO := Lib.hid (show outP p.p.native v prio = (v, prio) by rw [outP, HN.out, if_neg (by simpa using e1)])
  have zXW : w.heap.size + 2 < W.heap.size := by omega
  have cW := bW
  have rXW := rX
  have HRT := Lib.hid (fun w => r08Right_any dst src ty body v prio w (by unfold maxLen; omega))
  cases hrb : rightB ty v prio body.length with
  | false =>
   rw [hrb] at HRT
   unfold ethV at HRT
   go_wp2_with fail
   (try rw [hW])
   (try clear hW)
   (with_reducible refine (HRT.out _).mono ?_)
   rintro e w3 ⟨rfl, b3⟩
   have c3 := cW.trans (b3.mono cW.size)
   go_wp2_with fail
   go_ret
   refine ⟨⟨_, rfl, ?_⟩, c3⟩
   unfold printedS
   rw [HO.out]
   dsimp only
   rw [if_neg (by rw [hrb]; decide)]
   exact OwnL.nil _ _ _ _
  | true =>
   have HPR := Lib.hid (fun w => r08Print_any dst src ty body v prio w hrb)
   rw [hrb] at HRT
   unfold ethV at HRT HPR
   obtain ⟨out, hout⟩ : ∃ y, ethS dst src ty body v prio = y := ⟨_, rfl⟩
   rw [hout] at HPR
   have HOUT := Lib.hid hout
   have HRB := Lib.hid hrb
   clear hout hrb
   go_wp2_with fail
   (try rw [hW])
   (try clear hW)
   (with_reducible refine (HRT.out _).mono ?_)
   rintro e w3 ⟨rfl, b3⟩
   have c3 := cW.trans (b3.mono cW.size)
   have rX3 := (row_below b3 zXW).trans rXW
   go_wp2_with fail
   (with_reducible refine (HPR.out _).mono ?_)
   rintro e w4 ⟨rfl, b4⟩
   have c4 := c3.trans (b4.mono c3.size)
   have HMD := Lib.hid (OwnL.made (w := w4) (B := w.heap.size) (e := 52) (sz := 2) [Value.int .i64 (k : Int), Value.string ⟨out.toArray⟩] rfl c4.size)
   go_wp2_with fail
   go_ret
   refine ⟨⟨_, rfl, ?_⟩, Below.alloc c4 c4.size _⟩
   unfold printedS
   rw [HO.out]
   dsimp only
   rw [if_pos HRB.out, HOUT.out]
   exact HMD.out
end
section
open Go.RowKit Go.Shelf
structure TalkR (dst src : Vector UInt8 6) (ty : Int) (body : List UInt8) (t : TalkD) : Prop where
 ann : RAnnC dst src ty body t.ip t.mac t.ok
 no : t.ask = none → ∃ ip, RAskC dst src ty body ip false
 yes : ∀ ip ans, t.ask = some (ip, ans) → RAskC dst src ty body ip true ∧ (∀ who, RAnsC dst src ty body who (ans who)) ∧ ∀ who, (ans who).length ≤ 100
theorem talk_both (dst src : Vector UInt8 6) (ty : Int) (body : List UInt8) (hb : body.length ≤ 10000) : ∃ t, TalkC dst src ty body t ∧ TalkR dst src ty body t := by
 obtain ⟨ip, mac, ok, hA⟩ := ann_both dst src ty body hb
 rcases asks_both dst src ty body hb with ⟨hno, hr⟩ | ⟨ipq, ans, hs, hr1, hr2⟩
 ·
  exact ⟨⟨ip, mac, ok, none⟩, ⟨hA.prog, fun _ => hno, fun _ _ h => by cases h⟩, ⟨hA.ref, fun _ => hr, fun _ _ h => by cases h⟩⟩
 ·
  exact ⟨⟨ip, mac, ok, some (ipq, ans)⟩, ⟨hA.prog, (fun h => by cases h), fun a b h => by cases h; exact hs⟩, ⟨hA.ref, (fun h => by cases h), fun a b h => by cases h; exact ⟨hr1, hr2, hs.big⟩⟩⟩
structure Rel (s : BrS) (x : RefS) : Prop where
 ports : s.ports = x.rs.map (·.p)
 states : s.states = x.rs.map (·.state)
 ageing : s.ageing = x.ageing
 st : x.st.Perm s.st
 bi : x.bi = s.bi
 c0 : s.c0 = x.c0
 c1 : s.c1 = x.c1
 c2 : s.c2 = x.c2
 c3 : s.c3 = x.c3
 c4 : s.c4 = x.c4
theorem Rel.len {s : BrS} {x : RefS} (h : Rel s x) : s.ports.length = x.rs.length := by rw [h.ports, List.length_map]
theorem Rel.port {s : BrS} {x : RefS} (h : Rel s x) {k : Nat} (hk : k < x.rs.length) : s.port k = x.rs[k].p := by
 unfold BrS.port
 rw [h.ports, List.getD_eq_getElem?_getD, List.getElem?_eq_getElem (by rw [List.length_map]; exact hk), List.getElem_map]
 rfl
theorem Rel.state {s : BrS} {x : RefS} (h : Rel s x) {k : Nat} (hk : k < x.rs.length) : s.states.getD k 0 = x.rs[k].state := by
 rw [h.states, List.getD_eq_getElem?_getD, List.getElem?_eq_getElem (by rw [List.length_map]; exact hk), List.getElem_map]
 rfl
def vlOf (nat vl : Int) : Int := if vl ≤ 0 then nat else vl
theorem inP_le {nat vl : Int} {tag : List Int} (h : -1 ≤ vl) : inP nat tag vl = if memberP nat tag (vlOf nat vl) then (vlOf nat vl, 0) else (0, 12) := by
 unfold inP vlOf
 dsimp only
 have e : (vl = -1 ∨ vl = 0) ↔ vl ≤ 0 := by omega
 by_cases hv : vl ≤ 0
 ·
  rw [if_pos (e.2 hv), if_pos hv]
 ·
  rw [if_neg (fun h => hv (e.1 h)), if_neg hv]
theorem ethParse_vlan {l : List UInt8} {d : EthD} (h : ethParse l = .ok d) : -1 ≤ d.vlan ∧ d.vlan ≤ 4094 := by
 have h1 := (ethParse_again l d h).1
 simp [rightB] at h1
 omega
section
variable {s : BrS} {x : RefS} {k : Nat} {l : List UInt8} {t : TalkD} {d : EthD}
theorem come_err {n : Int} (h : ethParse l = .error n) : comeS s k l t = ({ s with c0 := s.c0 + 1 }, [], 3) := by unfold comeS; rw [h]
theorem come_grp (h : ethParse l = .ok d) (hg : grp d.src = true) : comeS s k l t = ({ s with c0 := s.c0 + 1 }, [], 3) := by
 unfold comeS; rw [h]; dsimp only; unfold comeD; rw [if_pos hg]
theorem come_ctl (h : ethParse l = .ok d) (hg : grp d.src = false) (hd : (d.dst == bpduTo) = true) : comeS s k l t = ({ s with c1 := s.c1 + 1 }, [], 0) := by
 unfold comeS; rw [h]; dsimp only; unfold comeD; rw [if_neg (by rw [hg]; decide), if_pos hd]
theorem come_stop (hR : Rel s x) (hk : k < x.rs.length) (h : ethParse l = .ok d) (hg : grp d.src = false) (hd : (d.dst == bpduTo) = false) (hs : x.rs[k].state < 2 ∨ memberP x.rs[k].p.native x.rs[k].p.tagged (vlOf x.rs[k].p.native d.vlan) = false) : comeS s k l t = ({ s with c2 := s.c2 + 1 }, [], 7) := by
 unfold comeS; rw [h]; dsimp only; unfold comeD
 rw [if_neg (by rw [hg]; decide), if_neg (by rw [hd]; decide), hR.port hk, hR.state hk, if_pos]
 rcases hs with hs | hs
 ·
  rw [decide_eq_true hs, Bool.true_or]
 ·
  rw [inP_le (ethParse_vlan h).1, hs]
  simp
theorem come_go (hR : Rel s x) (hk : k < x.rs.length) (h : ethParse l = .ok d) (hg : grp d.src = false) (hd : (d.dst == bpduTo) = false) (h2 : ¬ x.rs[k].state < 2) (hm : memberP x.rs[k].p.native x.rs[k].p.tagged (vlOf x.rs[k].p.native d.vlan) = true) :
  comeS s k l t = (if x.rs[k].state < 3 then ({ s with st := hearL x.rs[k].p.lim (vlOf x.rs[k].p.native d.vlan) d.src k s.st, c2 := s.c2 + 1 }, [], 7)
   else match askS (vlOf x.rs[k].p.native d.vlan) t (learnH (vlOf x.rs[k].p.native d.vlan) t.ip t.mac t.ok s.bi) with
   | some (c, ans) => ({ s with st := hearL x.rs[k].p.lim (vlOf x.rs[k].p.native d.vlan) d.src k s.st, bi := learnH (vlOf x.rs[k].p.native d.vlan) t.ip t.mac t.ok s.bi, c4 := s.c4 + 1 }, printedS x.rs[k].p k (vlOf x.rs[k].p.native d.vlan) d.src c.mac d.ty (ans c.mac) d.prio, 0)
   | none => ({ s with st := hearL x.rs[k].p.lim (vlOf x.rs[k].p.native d.vlan) d.src k s.st, bi := learnH (vlOf x.rs[k].p.native d.vlan) t.ip t.mac t.ok s.bi, c3 := s.c3 + 1 }, relayedS s (hearL x.rs[k].p.lim (vlOf x.rs[k].p.native d.vlan) d.src k s.st) k (vlOf x.rs[k].p.native d.vlan) d.dst d.src d.ty d.body d.prio, 0) : BrS × List (Nat × List UInt8) × Int) := by
 have hi : inP x.rs[k].p.native x.rs[k].p.tagged d.vlan = (vlOf x.rs[k].p.native d.vlan, 0) := by rw [inP_le (ethParse_vlan h).1, if_pos hm]
 unfold comeS; rw [h]; dsimp only; unfold comeD
 rw [if_neg (by rw [hg]; decide), if_neg (by rw [hd]; decide), hR.port hk, hR.state hk, hi, decide_eq_false h2, if_neg (by simp)]
 rfl
end
theorem dist_perm {m m' : List LB} (hd : DistL m) (hp : m.Perm m') : DistL m' := hp.pairwise hd (fun h => by
  simp only [LB.is] at h ⊢
  rw [Bool.and_eq_false_iff] at h ⊢
  simp only [beq_eq_false_iff_ne] at h ⊢
  exact h.imp Ne.symm Ne.symm)
theorem find_perm {v : Int} {mac : Vector UInt8 6} {m m' : List LB} (hd : DistL m) (hp : m.Perm m') : findL v mac m = findL v mac m' := by
 have hd' : DistL m' := dist_perm hd hp
 cases h : findL v mac m with
 | none =>
  symm
  unfold findL at h ⊢
  rw [List.find?_eq_none] at h ⊢
  exact fun c hc => h c (hp.mem_iff.2 hc)
 | some c =>
  have hc : c ∈ m ∧ c.is v mac = true := ⟨List.mem_of_find?_eq_some h, by have := List.find?_some h; exact this⟩
  cases h' : findL v mac m' with
  | none =>
   unfold findL at h'
   rw [List.find?_eq_none] at h'
   exact absurd hc.2 (h' c (hp.mem_iff.1 hc.1))
  | some c' =>
   rw [dist_uniq hd' h' c (hp.mem_iff.1 hc.1) hc.2]
theorem hear_perm {lim v : Int} {mac : Vector UInt8 6} {port : Int} {m m' : List LB} (hd : DistL m) (hp : m.Perm m') : (hearL lim v mac port m).Perm (hearL lim v mac port m') := by
 have hd' := dist_perm hd hp
 have h1 : onL port m = onL port m' := (hp.filter _).length_eq
 unfold hearL
 rw [find_perm hd hp, h1]
 generalize ((match findL v mac m' with | some b => b.port == port | none => false) || decide ((onL port m' : Int) < lim)) = b
 cases b
 ·
  exact hp
 ·
  exact (put_perm ⟨v, mac, port, 0⟩ hd).symm.trans (((hp.filter _).append_right _).trans (put_perm ⟨v, mac, port, 0⟩ hd'))
end
section
open Go.RowKit Go.Shelf
theorem ElemsAt.offAny {S : List Nat} {w : World} {a : Option Addr} {sz : Nat} {l : List (List Value)} (h : ElemsAt w a sz l) (hne : ∀ x ∈ l, x ≠ [])
  (hS : ∀ b ∈ S, mapOk w b ∨ (0 < (row w b).size ∧ ∀ (off : Nat), ∀ x ∈ l, ∃ (j : Nat) (v : Value), x[j]? = some v ∧ (row w b)[off + j]? ≠ some v)) : ElemsOff S w a sz l := by
 refine ⟨h.1, fun i x hx => ?_⟩
 obtain ⟨b, off, e, hb, hr⟩ := h.2 i x hx
 refine ⟨b, off, e, hb, fun hm => ?_, hr⟩
 rcases hS b hm with ⟨es, cl, hes, _⟩ | ⟨h0, h1⟩
 ·
  obtain ⟨y, r, rfl⟩ := List.exists_cons_of_ne_nil (hne x (List.mem_of_getElem? hx))
  have hc := hr w rfl 0 y rfl
  unfold World.cell? at hc
  rw [hes] at hc
  simp at hc
 ·
  obtain ⟨j, v, hj, hne⟩ := h1 (off + i * sz) x (List.mem_of_getElem? hx)
  have hc := hr w rfl j v hj
  obtain ⟨t, fr, hbl⟩ := row_block h0
  apply hne
  unfold World.cell? at hc
  rw [hbl] at hc
  simpa using hc
theorem ints_not {l : List Int} {i : Nat} {v : Value} (h : ∀ n, v ≠ .int .i64 n) : (ints l)[i]? ≠ some v := by
 intro he
 have hm := Array.mem_of_getElem? he
 unfold ints at hm
 simp only [List.mem_toArray, List.mem_map] at hm
 obtain ⟨n, _, e⟩ := hm
 exact h n e.symm
theorem br_not {A : BrA} {s : BrS} {i : Nat} {v : Value} (h1 : ∀ n, v ≠ .int .i64 n) (h2 : ∀ a n c, v ≠ .slice a n c) (h3 : ∀ a, v ≠ .pointer a) : (brRow A s)[i]? ≠ some v := by
 intro he
 have hm := Array.mem_of_getElem? he
 unfold brRow at hm
 simp only [List.mem_toArray, List.mem_cons, List.not_mem_nil, or_false] at hm
 rcases hm with e | e | e | e | e | e | e | e | e
 all_goals first | exact h1 _ e | exact h2 _ _ _ e | exact h3 _ e
theorem rf_not {A : RefA} {x : RefS} {i : Nat} {v : Value} (h1 : ∀ n, v ≠ .int .i64 n) (h2 : ∀ a n c, v ≠ .slice a n c) : (refV A x).toArray[i]? ≠ some v := by
 intro he
 have hm := Array.mem_of_getElem? he
 unfold refV at hm
 simp only [List.mem_toArray, List.mem_cons, List.not_mem_nil, or_false] at hm
 rcases hm with e | e | e | e | e | e | e | e | e
 all_goals first | exact h1 _ e | exact h2 _ _ _ e
theorem br_port {A : BrA} {s : BrS} (off : Nat) (ta : Option Addr) (tc : Nat) (r : RPortD) : ∃ (j : Nat) (v : Value), (rportV ta tc r)[j]? = some v ∧ (brRow A s)[off + j]? ≠ some v := by
 by_cases h : off < 4
 ·
  refine ⟨0, .int .i64 r.p.native, rfl, ?_⟩
  match off, h with
  | 0, _ => simp [brRow]
  | 1, _ => simp [brRow]
  | 2, _ => simp [brRow]
  | 3, _ => simp [brRow]
 ·
  refine ⟨1, .slice ta r.p.tagged.length tc, rfl, ?_⟩
  by_cases h9 : off < 8
  ·
   obtain rfl | rfl | rfl | rfl : off = 4 ∨ off = 5 ∨ off = 6 ∨ off = 7 := by omega
   all_goals simp [brRow]
  ·
   rw [Array.getElem?_eq_none (by simp [brRow]; omega)]
   simp
theorem rf_port {A : RefA} {x : RefS} (off : Nat) (ta : Option Addr) (tc : Nat) (r : RPortD) : ∃ (j : Nat) (v : Value), (rportV ta tc r)[j]? = some v ∧ (refV A x).toArray[off + j]? ≠ some v := by
 by_cases h : off < 4
 ·
  match off, h with
  | 0, _ => exact ⟨0, .int .i64 r.p.native, rfl, by simp [refV]⟩
  | 1, _ => exact ⟨2, .int .i64 r.p.hor, rfl, by simp [refV]⟩
  | 2, _ => exact ⟨0, .int .i64 r.p.native, rfl, by simp [refV]⟩
  | 3, _ => exact ⟨0, .int .i64 r.p.native, rfl, by simp [refV]⟩
 ·
  refine ⟨1, .slice ta r.p.tagged.length tc, rfl, ?_⟩
  by_cases h9 : off < 8
  ·
   obtain rfl | rfl | rfl | rfl : off = 4 ∨ off = 5 ∨ off = 6 ∨ off = 7 := by omega
   all_goals simp [refV]
  ·
   rw [Array.getElem?_eq_none (by simp [refV]; omega)]
   simp
structure RefK (S : List Nat) (w : World) (A : RefA) (x : RefS) : Prop where
 main : ∃ rows, ElemsOff S w A.pa 5 rows ∧ RRowsQ (fun ta l => ElemsOff S w ta 1 (l.map fun v => [Value.int .i64 v])) rows x.rs
 st : ElemsOff S w A.sa 10 (x.st.map entC)
 bi : ElemsOff S w A.ba 9 (x.bi.map bindC)
theorem RefK.kept {S : List Nat} {w w' : World} {A : RefA} {x : RefS} (h : RefK S w A x) (hb : BelowS w.heap.size S w w') : RefK S w' A x := by
 obtain ⟨⟨rows, h1, h2⟩, h3, h4⟩ := h
 exact ⟨⟨rows, h1.kept hb, h2.1, fun i r hr => by obtain ⟨ta, tc, e, hi⟩ := h2.2 i r hr; exact ⟨ta, tc, e, hi.kept hb⟩⟩, h3.kept hb, h4.kept hb⟩
theorem RefK.off {S : List Nat} {w : World} {A : RefA} {x : RefS} (h : RefK S w A x) : RPortsOff S w A.pa x.rs := by
 obtain ⟨⟨rows, h1, h2⟩, _, _⟩ := h
 exact h2.ports h1.elems
theorem RefK.t {S : List Nat} {w : World} {A : RefA} {x : RefS} (h : RefK S w A x) : RefT w A x := ⟨h.off.at, h.st.elems, h.bi.elems⟩
theorem refK_of {w : World} {B : BrA} {s : BrS} {A A0 : RefA} {x x0 : RefS} {X : Nat} (hT : BrT w B s) (hX : row w X = (refV A0 x0).toArray) (h : RefT w A x) (hO : RPortsOff (X :: B.muts) w A.pa x.rs) : RefK (X :: B.muts) w A x := by
 have hcase : ∀ b ∈ X :: B.muts, b = X ∨ b = B.B ∨ b = B.SB ∨ b = B.LM ∨ b = B.HM := by
  intro b hb
  simpa [BrA.muts] using hb
 have hsb : 0 < (row w B.SB).size := by rw [hT.rS]; simp [ints, hT.lenS]; exact hT.pos
 have hbb : 0 < (row w B.B).size := by rw [hT.rB]; simp [brRow]
 have hxx : 0 < (row w X).size := by rw [hX]; simp [refV]
 refine ⟨?_, ?_, ?_⟩
 ·
  obtain ⟨rows, h1, h2⟩ := h.ports.rows
  refine ⟨rows, h1.offAny (fun x hx e => by have := (h2.lens x hx).1; rw [e] at this; cases this) fun b hb => ?_, h2.off h1 hO⟩
  have hr : ∀ y ∈ rows, ∃ ta tc r, y = rportV ta tc r := by
   intro y hy
   obtain ⟨i, hi, rfl⟩ := List.getElem_of_mem hy
   have hi2 : i < x.rs.length := by rw [← h2.1]; exact hi
   obtain ⟨ta, tc, e, _⟩ := h2.2 i x.rs[i] (List.getElem?_eq_getElem hi2)
   rw [List.getElem?_eq_getElem hi] at e
   exact ⟨ta, tc, x.rs[i], Option.some.inj e⟩
  rcases hcase b hb with rfl | rfl | rfl | rfl | rfl
  ·
   refine .inr ⟨hxx, fun off y hy => ?_⟩
   obtain ⟨ta, tc, r, rfl⟩ := hr y hy
   rw [hX]
   exact rf_port off ta tc r
  ·
   refine .inr ⟨hbb, fun off y hy => ?_⟩
   obtain ⟨ta, tc, r, rfl⟩ := hr y hy
   rw [hT.rB]
   exact br_port off ta tc r
  ·
   refine .inr ⟨hsb, fun off y hy => ?_⟩
   obtain ⟨ta, tc, r, rfl⟩ := hr y hy
   rw [hT.rS]
   exact ⟨1, _, rfl, ints_not (fun n h => by cases h)⟩
  ·
   exact .inl hT.ler.ok
  ·
   exact .inl hT.hush.ok
 ·
  refine h.st.offAny (fun y hy e => by obtain ⟨c, _, rfl⟩ := List.mem_map.1 hy; have := congrArg List.length e; simp at this) fun b hb => ?_
  have hj : ∀ y ∈ x.st.map entC, y[9]? = some (.bool false) := by
   intro y hy
   obtain ⟨c, _, rfl⟩ := List.mem_map.1 hy
   simp [entC]
  rcases hcase b hb with rfl | rfl | rfl | rfl | rfl
  ·
   exact .inr ⟨hxx, fun off y hy => ⟨9, _, hj y hy, by rw [hX]; exact rf_not (fun n h => by cases h) (fun a n c h => by cases h)⟩⟩
  ·
   exact .inr ⟨hbb, fun off y hy => ⟨9, _, hj y hy, by rw [hT.rB]; exact br_not (fun n h => by cases h) (fun a n c h => by cases h) (fun a h => by cases h)⟩⟩
  ·
   exact .inr ⟨hsb, fun off y hy => ⟨9, _, hj y hy, by rw [hT.rS]; exact ints_not (fun n h => by cases h)⟩⟩
  ·
   exact .inl hT.ler.ok
  ·
   exact .inl hT.hush.ok
 ·
  refine h.bi.offAny (fun y hy e => by obtain ⟨c, _, rfl⟩ := List.mem_map.1 hy; have := congrArg List.length e; simp at this) fun b hb => ?_
  have hj : ∀ y ∈ x.bi.map bindC, ∃ z, y[1]? = some (.string z) := by
   intro y hy
   obtain ⟨c, _, rfl⟩ := List.mem_map.1 hy
   exact ⟨_, rfl⟩
  rcases hcase b hb with rfl | rfl | rfl | rfl | rfl
  ·
   refine .inr ⟨hxx, fun off y hy => ?_⟩
   obtain ⟨z, hz⟩ := hj y hy
   exact ⟨1, _, hz, by rw [hX]; exact rf_not (fun n h => by cases h) (fun a n c h => by cases h)⟩
  ·
   refine .inr ⟨hbb, fun off y hy => ?_⟩
   obtain ⟨z, hz⟩ := hj y hy
   exact ⟨1, _, hz, by rw [hT.rB]; exact br_not (fun n h => by cases h) (fun a n c h => by cases h) (fun a h => by cases h)⟩
  ·
   refine .inr ⟨hsb, fun off y hy => ?_⟩
   obtain ⟨z, hz⟩ := hj y hy
   exact ⟨1, _, hz, by rw [hT.rS]; exact ints_not (fun n h => by cases h)⟩
  ·
   exact .inl hT.ler.ok
  ·
   exact .inl hT.hush.ok
end
section
open Go.RowKit Go.Shelf
def rs0 (rs : List RPortD) : List RPortD := rs.map fun r => { r with state := 0 }
@[simp] theorem rs0_length (rs : List RPortD) : (rs0 rs).length = rs.length := by simp [rs0]
set_option maxRecDepth 20000 in
set_option maxHeartbeats 2000000 in
theorem fresh_any (pa : Option Addr) (cap : Nat) (rs : List RPortD) (w : World) (h : RPortsAt w pa rs) (hn : rs.length ≤ 1000) :
  Calls Tryz.prog 6 #[.slice pa rs.length cap] w fun e w' => (∃ u, e = .returned u ∧ ∃ pa' cap', u = .slice pa' rs.length cap' ∧ ∀ S : List Nat, (∀ x ∈ S, w.heap.size ≤ x) → RPortsOff S w' pa' (rs0 rs)) ∧ Below w.heap.size w w' := by
 have hnI : (rs.length : Int) ≤ 1000 := by omega
 go_enter Tryz.func6, Tryz.ntmps6
 go_wp2_with fail
 go_loopw [3, 4] (fun u i wr => ∃ (k : Nat) (rows : List (List Value)), k ≤ rs.length ∧ i = .int .i64 k ∧ rows.length = k ∧ OwnL wr w.heap.size 71 5 u rows ∧
  (∀ (q : Nat) (r : RPortD), q < k → rs[q]? = some r → ∃ ta tc, rows[q]? = some (rportV ta tc { r with state := 0 }) ∧ IntsAt w ta r.p.tagged) ∧ Below w.heap.size w wr) (fun _ i _ => rs.length - (intOf i).toNat)
 case atStart => exact ⟨0, [], by omega, rfl, rfl, OwnL.nil _ _ _ _, (fun q r hq _ => by omega), Below.refl _ _⟩
 case round =>
  obtain ⟨k, rows, hk, rfl, hrl, hown, hrows, cb⟩ := hrel
  have zb := cb.size
  by_cases hlt : k < rs.length
  ·
   have hltI : (k : Int) < (rs.length : Int) := by omega
   obtain ⟨pb, po, ta, tc, rfl, hpb, hrd⟩ := h.get hlt
   obtain ⟨r, hr⟩ : ∃ x, rs[k] = x := ⟨_, rfl⟩
   rw [hr] at hrd
   have hit : IntsAt w ta r.p.tagged := (hrd w (Below.refl _ _)).2
   have hld := run_loadS_at (P := Tryz.prog) (t := 71) (hrd wr cb).1 (by simp [rportV])
   unfold rportV at hld
   obtain ⟨o, ho⟩ : ∃ o, po + k * 5 = o := ⟨_, rfl⟩
   rw [ho] at hld
   have HIT := Lib.hid hit
   have HR := Lib.hid hr
   have HRW := Lib.hid hrows
   obtain ⟨W1, hW1⟩ : ∃ v, wr.alloc (.cells #[Value.int .i64 r.p.native, Value.slice ta r.p.tagged.length tc, Value.int .i64 r.p.hor, Value.int .i64 r.p.lim, Value.int .i64 r.state] 71) = v := ⟨_, rfl⟩
   have r1 : row W1 wr.heap.size = #[Value.int .i64 r.p.native, Value.slice ta r.p.tagged.length tc, Value.int .i64 r.p.hor, Value.int .i64 r.p.lim, Value.int .i64 r.state] := by rw [← hW1]; exact row_alloc_at _ _ _ rfl
   have z1 : W1.heap.size = wr.heap.size + 1 := by rw [← hW1]; exact alloc_sizeW _ _
   have b1 : Below wr.heap.size wr W1 := by rw [← hW1]; exact Below.alloc (Below.refl _ _) (Nat.le_refl _) _
   obtain ⟨W2, hW2⟩ : ∃ v, W1.setRow wr.heap.size #[Value.int .i64 r.p.native, Value.slice ta r.p.tagged.length tc, Value.int .i64 r.p.hor, Value.int .i64 r.p.lim, Value.int .i64 0] = v := ⟨_, rfl⟩
   have r2 : row W2 wr.heap.size = #[Value.int .i64 r.p.native, Value.slice ta r.p.tagged.length tc, Value.int .i64 r.p.hor, Value.int .i64 r.p.lim, Value.int .i64 0] := by rw [← hW2]; exact row_setRow_same (by rw [r1]; simp) (by rw [r1]; simp)
   have z2 : W2.heap.size = wr.heap.size + 1 := by rw [← hW2, setRow_size, z1]
   have b2 : Below wr.heap.size wr W2 := by rw [← hW2]; exact Below.setRow b1 (Nat.le_refl _) _
   have own2 := hown.below b2
   have B2 : Below w.heap.size w W2 := cb.trans (b2.mono zb)
   have hle2 : w.heap.size ≤ W2.heap.size := by omega
   have HL10 := Lib.hid (show rows.length ≤ 10000 by omega)
   clear hrd hit hr hrows hown z1 z2
   go_wp2_with (at_builtin; refine wpList_appendL rfl rfl Tryz.underlying22 rportInfo (by decide) (by decide) w.heap.size _ _ rfl own2 [Value.int .i64 r.p.native, Value.slice ta r.p.tagged.length tc, Value.int .i64 r.p.hor, Value.int .i64 r.p.lim, Value.int .i64 0] rfl rfl (by simp) HL10.out hle2 ?_)
   intro v' w4 o4 b4 f4
   have HO4 := Lib.hid o4
   have hrows2 : ∀ (q : Nat) (r' : RPortD), q < k + 1 → rs[q]? = some r' → ∃ ta' tc', (rows ++ [[Value.int .i64 r.p.native, Value.slice ta r.p.tagged.length tc, Value.int .i64 r.p.hor, Value.int .i64 r.p.lim, Value.int .i64 0]])[q]? = some (rportV ta' tc' { r' with state := 0 }) ∧ IntsAt w ta' r'.p.tagged := by
    intro q r' hq hr'
    by_cases hqk : q < k
    ·
     obtain ⟨ta', tc', e1, e2⟩ := HRW.out q r' hqk hr'
     exact ⟨ta', tc', by rw [List.getElem?_append_left (by omega)]; exact e1, e2⟩
    ·
     have hqe : q = k := by omega
     subst hqe
     rw [List.getElem?_eq_getElem hlt, HR.out] at hr'
     cases hr'
     exact ⟨ta, tc, by rw [List.getElem?_append_right (by omega), hrl, Nat.sub_self]; rfl, HIT.out⟩
   have HRW2 := Lib.hid hrows2
   clear hrows2 o4
   go_wp2_with fail
   go_roundw
   case rel => exact ⟨k + 1, _, by omega, by simp, by simp [hrl], HO4.out, HRW2.out, B2.trans b4⟩
   case measure => simp [intOf]; omega
  ·
   obtain rfl : k = rs.length := by omega
   have hltI : ¬ (rs.length : Int) < (rs.length : Int) := by omega
   obtain ⟨oa, oc, oe, hE⟩ := hown.elems
   rw [hrl] at oe
   subst oe
   have HE := Lib.hid hE
   have HRW := Lib.hid hrows
   clear hE hrows hown
   go_wp2_with fail
   go_ret
   refine ⟨⟨_, rfl, _, ⟨_, rfl⟩, fun S hS => ?_⟩, cb⟩
   have hQ : RRowsQ (fun ta l => ElemsOff S wr ta 1 (l.map fun v => [Value.int .i64 v])) rows (rs0 rs) := by
    refine ⟨by rw [hrl, rs0_length], fun i r hr => ?_⟩
    unfold rs0 at hr
    rw [List.getElem?_map, Option.map_eq_some_iff] at hr
    obtain ⟨r0, h0, rfl⟩ := hr
    obtain ⟨ta, tc, e1, e2⟩ := HRW.out i r0 (List.getElem?_eq_some_iff.1 h0).1 h0
    refine ⟨ta, tc, e1, ?_⟩
    refine ElemsOff.below (w := w) ?_ cb
    refine ⟨e2.1, fun q y hy => ?_⟩
    obtain ⟨b, off, e3, hb, hr3⟩ := e2.2 q y hy
    exact ⟨b, off, e3, hb, fun hm => by have := hS b hm; omega, hr3⟩
   exact hQ.ports HE.out
end
section
open Go.RowKit Go.Shelf
structure ParseR (l : List UInt8) (dst src : Vector UInt8 6) (ty : Int) (body : List UInt8) (vl prio er : Int) : Prop where
 parse : ∀ w, Calls Tryz.prog 39 #[.string ⟨l.toArray⟩] w fun e w' => e = .returned (.tuple #[.agg (ethV dst src ty body vl prio).toArray, .int .i64 er]) ∧ Below w.heap.size w w'
 err : er ≠ 0 → ∃ n, ethParse l = .error n
 good : er = 0 → ethParse l = .ok ⟨dst, src, ty, body, vl, prio⟩
theorem parseR (l : List UInt8) (hl : l.length ≤ 100000) : ∃ dst src ty body vl prio er, ParseR l dst src ty body vl prio er := by
 cases hp : ethParse l with
 | error n =>
  refine ⟨mac0, mac0, 0, [], 0, 0, n, fun w => (r08Parse_any l w hl).mono fun e w' h => ?_, fun _ => ⟨n, hp⟩, fun h => ?_⟩
  ·
   rw [hp] at h
   exact h
  ·
   have := ethErr0 l n hp
   rw [h] at this
   cases this
 | ok d =>
  refine ⟨d.dst, d.src, d.ty, d.body, d.vlan, d.prio, 0, fun w => (r08Parse_any l w hl).mono fun e w' h => ?_, fun h => absurd rfl h, fun _ => hp⟩
  rw [hp] at h
  exact h
theorem ElemsAt.offRow {S : List Nat} {w : World} {a : Option Addr} {sz : Nat} {l : List (List Value)} (h : ElemsAt w a sz l) (hS : ∀ b ∈ S, 0 < (row w b).size ∧ ∀ (off : Nat), ∀ x ∈ l, ∃ (j : Nat) (v : Value), x[j]? = some v ∧ (row w b)[off + j]? ≠ some v) : ElemsOff S w a sz l := by
 refine ⟨h.1, fun i x hx => ?_⟩
 obtain ⟨b, off, e, hb, hr⟩ := h.2 i x hx
 refine ⟨b, off, e, hb, fun hm => ?_, hr⟩
 obtain ⟨h0, h1⟩ := hS b hm
 obtain ⟨j, v, hj, hne⟩ := h1 (off + i * sz) x (List.mem_of_getElem? hx)
 have hc := hr w rfl j v hj
 obtain ⟨t, fr, hbl⟩ := row_block h0
 apply hne
 unfold World.cell? at hc
 rw [hbl] at hc
 simpa using hc
theorem ent_off {S : List Nat} {w : World} {a : Option Addr} {m : List LB} (h : ElemsAt w a 10 (m.map entC)) (hS : ∀ b ∈ S, (row w b).size = 9) : ElemsOff S w a 10 (m.map entC) := by
 refine h.offRow fun b hb => ⟨by rw [hS b hb]; decide, fun off x hx => ?_⟩
 obtain ⟨c, _, rfl⟩ := List.mem_map.1 hx
 exact ⟨9, .bool false, by simp [entC], by rw [Array.getElem?_eq_none (by rw [hS b hb]; omega)]; simp⟩
theorem bind_off {S : List Nat} {w : World} {a : Option Addr} {m : List HB} (h : ElemsAt w a 9 (m.map bindC)) (hS : ∀ b ∈ S, (row w b).size = 9 ∧ ∃ a n c, (row w b)[0]? = some (.slice a n c)) : ElemsOff S w a 9 (m.map bindC) := by
 refine h.offRow fun b hb => ⟨by rw [(hS b hb).1]; decide, fun off x hx => ?_⟩
 obtain ⟨c, _, rfl⟩ := List.mem_map.1 hx
 obtain ⟨h9, a', n', c', h0⟩ := hS b hb
 rcases Nat.eq_zero_or_pos off with rfl | hp
 ·
  exact ⟨0, .int .i64 c.v, rfl, by rw [Nat.zero_add, h0]; simp⟩
 ·
  exact ⟨8, .int .i64 c.age, by simp [bindC], by rw [Array.getElem?_eq_none (by rw [h9]; omega)]; simp⟩
theorem r20Learn_lim (v : Int) (mac : Vector UInt8 6) (k n : Nat) (m : List LB) (lims : List Int) (lim : Int) (a la : Option Addr) (cap lcap : Nat) (w : World) (h : ElemsAt w a 10 (m.map entC)) (hL : IntsAt w la lims) (hm : m.length ≤ 900) (hd : DistL m) (hv1 : 1 ≤ v) (hv2 : v ≤ 4094) (hg : mac[0].toNat % 2 = 0) (hlen : lims.length = n) (hk : k < n) (hlim : lims[k]? = some lim) (hn : n ≤ 64) :
  Calls Tryz.prog 41 #[.slice a m.length cap, .slice la n lcap, .int .i64 v, .agg (u8v mac).toArray, .int .i64 (k : Int)] w fun e w' => (∃ (v' : Value) (l' : List LB), (∃ c : Int, e = .returned (.tuple #[v', .int .i64 c])) ∧ SlL w' 10 v' (l'.map entC) ∧ l'.Perm (hearL lim v mac k m)) ∧ Below w.heap.size w w' := by
 subst hlen
 obtain ⟨hk2, rfl⟩ := List.getElem?_eq_some_iff.1 hlim
 exact r20Count v mac k m lims a la cap lcap w h hL hm hd hv1 hv2 hg hk2 hn
theorem find_first {v : Int} {ip : List UInt8} : ∀ {m : List HB} {j : Nat} (hj : j < m.length), (∀ (i : Nat) (hi : i < m.length), i < j → m[i].is v ip = false) → m[j].is v ip = true → findH v ip m = some m[j]
 | [], j, hj, _, _ => by simp at hj
 | c :: m, 0, _, _, h => by unfold findH; rw [show c.is v ip = true from h]; rfl
 | c :: m, j + 1, hj, hno, h => by
  have h0 := hno 0 (by simp) (by omega)
  unfold findH
  rw [show c.is v ip = false from h0]
  exact find_first (m := m) (by simpa using hj) (fun i hi hij => hno (i + 1) (by simpa using hi) (by omega)) h
theorem find_none {v : Int} {ip : List UInt8} : ∀ {m : List HB}, (∀ (i : Nat) (hi : i < m.length), m[i].is v ip = false) → findH v ip m = none
 | [], _ => rfl
 | c :: m, hno => by
  have h0 := hno 0 (by simp)
  unfold findH
  rw [show c.is v ip = false from h0]
  exact find_none (m := m) (fun i hi => hno (i + 1) (by simpa using hi))
theorem goes_eq {s : BrS} {x : RefS} (hR : Rel s x) {fr i : Nat} (hf : fr < x.rs.length) (hi : i < x.rs.length) (v : Int) (st : List LB) (dst : Vector UInt8 6) :
  goesTo s st fr v dst i = (mayR x.rs[fr] x.rs[i] fr i v && (grp dst || atPort (findL v dst st) i)) := by
 have e1 : s.ports.getD i ⟨0, [], 0, 0⟩ = x.rs[i].p := hR.port hi
 have e2 : s.ports.getD fr ⟨0, [], 0, 0⟩ = x.rs[fr].p := hR.port hf
 unfold goesTo mayB mayR
 rw [e1, e2, hR.state hi, show (x.rs[i].p.hor != x.rs[fr].p.hor) = (x.rs[fr].p.hor != x.rs[i].p.hor) from bne_comm]
theorem rel_eq {s : BrS} {x : RefS} (hR : Rel s x) {fr i : Nat} (hf : fr < x.rs.length) (hi : i < x.rs.length) (v : Int) (st : List LB) (dst src : Vector UInt8 6) (ty : Int) (body : List UInt8) (prio : Int) {b : Bool}
  (hb : (mayR x.rs[fr] x.rs[i] fr i v && (grp dst || atPort (findL v dst st) i)) = b) : relF s st fr v dst src ty body prio i = if b then printedS x.rs[i].p i v dst src ty body prio else [] := by
 unfold relF
 rw [goes_eq hR hf hi, hb, show s.ports.getD i ⟨0, [], 0, 0⟩ = x.rs[i].p from hR.port hi]
theorem pos_cases (v : Int) (mac : Vector UInt8 6) (m : List LB) : (posI v mac m < 0 ∧ findL v mac m = none) ∨ ∃ (j : Nat) (hj : j < m.length), posI v mac m = (j : Int) ∧ findL v mac m = some m[j] := by
 by_cases hf : (m.findIdx fun b => b.is v mac) < m.length
 ·
  exact .inr ⟨_, hf, by unfold posI; rw [if_pos hf], find_pos hf rfl⟩
 ·
  exact .inl ⟨by unfold posI; rw [if_neg hf]; decide, (find_no hf).1⟩
theorem flat_snoc {α : Type} (f : Nat → List α) (j : Nat) : (List.range (j + 1)).flatMap f = (List.range j).flatMap f ++ f j := by
 rw [List.range_succ, List.flatMap_append]
 simp
theorem step_no {m : List HB} {v : Int} {ip : List UInt8} {j : Nat} {hlt : j < m.length} (ha : ∀ (q : Nat) (hq : q < m.length), q < j → m[q].is v ip = false) (hb : m[j].is v ip = false) : ∀ (q : Nat) (hq : q < m.length), q < j + 1 → m[q].is v ip = false := by
 intro q hq hqj
 rcases Nat.lt_or_ge q j with h0 | h0
 ·
  exact ha q hq h0
 ·
  obtain rfl : q = j := by omega
  exact hb
def OkBlk (y : World) (b : Nat) (W : World) : Prop := blk W b = blk y b ∧ b < W.heap.size
theorem grow_ok (y : World) (b : Nat) : GrowP (OkBlk y b) := grow_blk b (blk y b)
theorem vlOf_two (nat vl : Int) : (vl ≤ 0 ∧ decide (vl ≤ 0) = true ∧ vlOf nat vl = nat) ∨ (¬ vl ≤ 0 ∧ decide (vl ≤ 0) = false ∧ vlOf nat vl = vl) := by
 unfold vlOf
 by_cases h : vl ≤ 0
 ·
  exact .inl ⟨h, decide_eq_true h, if_pos h⟩
 ·
  exact .inr ⟨h, decide_eq_false h, if_neg h⟩
set_option maxRecDepth 20000 in
set_option maxHeartbeats 8000000 in
theorem r22Come_any (A : RefA) (x : RefS) (s : BrS) (k : Nat) (l : List UInt8) (t : TalkD) (w : World) (h : RefT w A x) (hR : Rel s x) {N : Nat} (hN : N ≤ 800) (g : BrG s N) (hk : k < x.rs.length) (hl : l.length ≤ 100000) (ht : ∀ d, ethParse l = .ok d → TalkR d.dst d.src d.ty d.body t) :
  Calls Tryz.prog 15 #[.agg (refV A x).toArray, .int .i64 (k : Int), .string ⟨l.toArray⟩] w fun e w' => (∃ A', A'.pa = A.pa ∧ ∃ x', x'.rs = x.rs ∧ ∃ u, e = .returned (.tuple #[.agg (refV A' x').toArray, u, .int .i64 (comeS s k l t).2.2]) ∧ RefT w' A' x' ∧ Rel (comeS s k l t).1 x' ∧ OwnL w' w.heap.size 52 2 u ((comeS s k l t).2.1.map outC)) ∧ Below w.heap.size w w' := by
 have hlen := hR.len
 have hn32 := g.n32
 obtain ⟨⟨d0, e0⟩, ⟨d1, e1⟩, ⟨d2, e2⟩, ⟨d3, e3⟩, ⟨d4, e4⟩⟩ := g.cs
 rw [hR.c0] at d0 e0
 rw [hR.c1] at d1 e1
 rw [hR.c2] at d2 e2
 rw [hR.c3] at d3 e3
 rw [hR.c4] at d4 e4
 have HG := Lib.hid g
 have HRL := Lib.hid hR
 have HRF := Lib.hid h
 have HT := Lib.hid ht
 have hkI : (k : Int) < (x.rs.length : Int) := by omega
 have hk0 : (0 : Int) ≤ (k : Int) := by omega
 have hnI : (x.rs.length : Int) ≤ 32 := by omega
 rw [hlen] at hn32
 obtain ⟨dst, src, ty, body, vl, prio, er, HPX⟩ := parseR l hl
 obtain ⟨hparse, herr, hgood⟩ := HPX
 have HP := Lib.hid hparse
 have HE := Lib.hid herr
 have HGD := Lib.hid hgood
 obtain ⟨sb, hsb⟩ : ∃ y, src[0] = y := ⟨_, rfl⟩
 have hs0 : (u8v src)[0]? = some (.int .u8 (sb.toNat : Int)) := by rw [← hsb]; simp [u8v, u8s]
 have HGR := Lib.hid (grp_rem (mac := src) (b := grp src) rfl)
 rw [hsb] at HGR
 have HSB := Lib.hid hsb
 have HDX := Lib.hid (dist_perm g.std hR.st.symm)
 clear hR g ht hlen hparse herr hgood hsb
 obtain ⟨pa, pcap, sa, scap, ba, bcap⟩ := A
 obtain ⟨hports, hst, hbi⟩ := h
 dsimp only at hports hst hbi
 obtain ⟨pb, po, ta, tc, rfl, hpb, hrd⟩ := hports.get hk
 unfold refV
 unfold ethV at HP
 dsimp only
 go_enter Tryz.func15, Tryz.ntmps15
 obtain ⟨W, hW⟩ : ∃ W, (w.alloc (.cells #[.slice (some ⟨pb, po, none⟩) x.rs.length pcap, .int .i64 x.ageing, .slice sa x.st.length scap, .slice ba x.bi.length bcap, .int .i64 x.c0, .int .i64 x.c1, .int .i64 x.c2, .int .i64 x.c3, .int .i64 x.c4] 31)).alloc (.cells (Value.slice none 0 0 :: Value.int .i64 0 :: (zeros 2 (Value.slice none 0 0) ++ zeros 5 (Value.int .i64 0))).toArray 31) = W := ⟨_, rfl⟩
 have bW : Below w.heap.size w W := by rw [← hW]; exact Below.alloc (Below.alloc (Below.refl _ _) (Nat.le_refl _) _) (by simp) _
 have rB : row W w.heap.size = #[.slice (some ⟨pb, po, none⟩) x.rs.length pcap, .int .i64 x.ageing, .slice sa x.st.length scap, .slice ba x.bi.length bcap, .int .i64 x.c0, .int .i64 x.c1, .int .i64 x.c2, .int .i64 x.c3, .int .i64 x.c4] := by rw [← hW]; simp [go_sem]
 have rR : row W (w.heap.size + 1) = (Value.slice none 0 0 :: Value.int .i64 0 :: (zeros 2 (Value.slice none 0 0) ++ zeros 5 (Value.int .i64 0))).toArray := by rw [← hW]; simp [go_sem]
 have zW : W.heap.size = w.heap.size + 2 := by rw [← hW, alloc_sizeW, alloc_sizeW]
 go_wp2_with fail
 (try rw [hW])
 clear hW
 (with_reducible refine (HP.out _).mono ?_)
 rintro e w1 ⟨rfl, b1⟩
 have z1 := b1.size
 have rB1 := (row_below b1 (by omega)).trans rB
 have rR1 := (row_below b1 (by omega)).trans rR
 have D1 := bW.trans (b1.mono bW.size)
 obtain ⟨wc, hwc⟩ : ∃ y, w1.alloc (.cells (u8v dst ++ (u8v src ++ [Value.int .i64 ty, .string ⟨body.toArray⟩, .int .i64 vl, .int .i64 prio])).toArray 101) = y := ⟨_, rfl⟩
 have bc : Below w1.heap.size w1 wc := by rw [← hwc]; exact Below.alloc (Below.refl _ _) (Nat.le_refl _) _
 have zc : wc.heap.size = w1.heap.size + 1 := by rw [← hwc, alloc_sizeW]
 have rX : row wc w1.heap.size = (u8v dst ++ (u8v src ++ [Value.int .i64 ty, .string ⟨body.toArray⟩, .int .i64 vl, .int .i64 prio])).toArray := by rw [← hwc]; exact row_alloc_at _ _ _ rfl
 clear rB rR
 have rB := (row_below bc (by omega)).trans rB1
 have rR := (row_below bc (by omega)).trans rR1
 have D := D1.trans (bc.mono D1.size)
 have cS : wc.cell? ⟨w1.heap.size, 6, none⟩ = some (.int .u8 (sb.toNat : Int)) := by
  rw [cell_of_row' (by rw [rX]; simp), rX, List.getElem?_toArray, List.getElem?_append_right (by simp), List.getElem?_append_left (by simp)]
  simpa using hs0
 have zX : w.heap.size + 2 ≤ w1.heap.size := by omega
 clear rB1 rR1 hs0 bW b1 D1 bc zW
 by_cases her : er = 0
 ·
  subst her
  have hok := HGD.out rfl
  have HOK := Lib.hid hok
  cases hgr : grp src with
  | true =>
   have hm := (HGR.out).2
   have hm2 := (HGR.out).1
   rw [hgr, if_pos rfl] at hm hm2
   have HC := Lib.hid (come_grp (s := s) (k := k) (t := t) hok hgr)
   clear hok hgr
   go_wp2_with fail
   (try rw [hwc])
   (try clear hwc)
   have hi1 : wrap64 (x.c0 + 1) = x.c0 + 1 := by unfold wrap64; omega
   have hi2 : IntKind.i64.wrap (x.c0 + 1) = x.c0 + 1 := by rw [wraps_i64 _ (by omega) (by omega)]
   obtain ⟨y1, hy1⟩ : ∃ y, wc.setRow w.heap.size #[.slice (some ⟨pb, po, none⟩) x.rs.length pcap, .int .i64 x.ageing, .slice sa x.st.length scap, .slice ba x.bi.length bcap, .int .i64 (x.c0 + 1), .int .i64 x.c1, .int .i64 x.c2, .int .i64 x.c3, .int .i64 x.c4] = y := ⟨_, rfl⟩
   have rB1 : row y1 w.heap.size = #[.slice (some ⟨pb, po, none⟩) x.rs.length pcap, .int .i64 x.ageing, .slice sa x.st.length scap, .slice ba x.bi.length bcap, .int .i64 (x.c0 + 1), .int .i64 x.c1, .int .i64 x.c2, .int .i64 x.c3, .int .i64 x.c4] := by rw [← hy1]; exact row_setRow_same (by rw [rB]; simp) (by rw [rB]; rfl)
   have rR1 : row y1 (w.heap.size + 1) = (Value.slice none 0 0 :: Value.int .i64 0 :: (zeros 2 (Value.slice none 0 0) ++ zeros 5 (Value.int .i64 0))).toArray := by rw [← hy1, row_setRow_other _ _ _ (by omega)]; exact rR
   have zy1 : y1.heap.size = wc.heap.size := by rw [← hy1, setRow_size]
   have cy1 : Below w.heap.size w y1 := by rw [← hy1]; exact Below.setRow D (Nat.le_refl _) _
   go_wp2_with fail
   (try rw [hy1])
   (try clear hy1)
   go_wp2_with fail
   have hfin := row_setRow_same (w := y1) (g := w.heap.size + 1) (c := #[.slice (some ⟨pb, po, none⟩) x.rs.length pcap, .int .i64 x.ageing, .slice sa x.st.length scap, .slice ba x.bi.length bcap, .int .i64 (x.c0 + 1), .int .i64 x.c1, .int .i64 x.c2, .int .i64 x.c3, .int .i64 x.c4]) (by rw [rR1]; simp) (by rw [rR1]; simp)
   refine bodyPost_ret (results_3 rfl (resOk_row rfl ?_) resOk_tmp resOk_tmp) rfl ?_
   ·
    rw [hfin]; rfl
   have bf := Below.setRow (g := w.heap.size + 1) cy1 (Nat.le_succ _) (#[.slice (some ⟨pb, po, none⟩) x.rs.length pcap, .int .i64 x.ageing, .slice sa x.st.length scap, .slice ba x.bi.length bcap, .int .i64 (x.c0 + 1), .int .i64 x.c1, .int .i64 x.c2, .int .i64 x.c3, .int .i64 x.c4])
   refine ⟨⟨⟨(some ⟨pb, po, none⟩), pcap, sa, scap, ba, bcap⟩, rfl, { x with c0 := x.c0 + 1 }, rfl, _, by rw [hfin, HC.out]; rfl, ⟨HRF.out.ports.below bf, HRF.out.st.below bf, HRF.out.bi.below bf⟩, ?_, by rw [HC.out]; exact OwnL.nil _ _ _ _⟩, bf⟩
   rw [HC.out]
   exact { HRL.out with c0 := by show _ + 1 = _ + 1; rw [HRL.out.c0] }
  | false =>
   have hm := (HGR.out).2
   have hm2 := (HGR.out).1
   rw [hgr, if_neg (by decide)] at hm hm2
   have hbp : #[Value.int .u8 1, Value.int .u8 128, Value.int .u8 194, Value.int .u8 0, Value.int .u8 0, Value.int .u8 0] = (u8v bpduTo).toArray := rfl
   cases hto : (dst == bpduTo) with
   | true =>
    have HC := Lib.hid (come_ctl (s := s) (k := k) (t := t) hok hgr hto)
    clear hok hgr
    go_wp2_with fail
    (try rw [hwc])
    (try clear hwc)
    have hi1 : wrap64 (x.c1 + 1) = x.c1 + 1 := by unfold wrap64; omega
    have hi2 : IntKind.i64.wrap (x.c1 + 1) = x.c1 + 1 := by rw [wraps_i64 _ (by omega) (by omega)]
    obtain ⟨y1, hy1⟩ : ∃ y, wc.setRow w.heap.size #[.slice (some ⟨pb, po, none⟩) x.rs.length pcap, .int .i64 x.ageing, .slice sa x.st.length scap, .slice ba x.bi.length bcap, .int .i64 x.c0, .int .i64 (x.c1 + 1), .int .i64 x.c2, .int .i64 x.c3, .int .i64 x.c4] = y := ⟨_, rfl⟩
    have rB1 : row y1 w.heap.size = #[.slice (some ⟨pb, po, none⟩) x.rs.length pcap, .int .i64 x.ageing, .slice sa x.st.length scap, .slice ba x.bi.length bcap, .int .i64 x.c0, .int .i64 (x.c1 + 1), .int .i64 x.c2, .int .i64 x.c3, .int .i64 x.c4] := by rw [← hy1]; exact row_setRow_same (by rw [rB]; simp) (by rw [rB]; rfl)
    have rR1 : row y1 (w.heap.size + 1) = (Value.slice none 0 0 :: Value.int .i64 0 :: (zeros 2 (Value.slice none 0 0) ++ zeros 5 (Value.int .i64 0))).toArray := by rw [← hy1, row_setRow_other _ _ _ (by omega)]; exact rR
    have zy1 : y1.heap.size = wc.heap.size := by rw [← hy1, setRow_size]
    have cy1 : Below w.heap.size w y1 := by rw [← hy1]; exact Below.setRow D (Nat.le_refl _) _
    go_wp2_with fail
    (try rw [hy1])
    (try clear hy1)
    go_wp2_with fail
    have hfin := row_setRow_same (w := y1) (g := w.heap.size + 1) (c := #[.slice (some ⟨pb, po, none⟩) x.rs.length pcap, .int .i64 x.ageing, .slice sa x.st.length scap, .slice ba x.bi.length bcap, .int .i64 x.c0, .int .i64 (x.c1 + 1), .int .i64 x.c2, .int .i64 x.c3, .int .i64 x.c4]) (by rw [rR1]; simp) (by rw [rR1]; simp)
    refine bodyPost_ret (results_3 rfl (resOk_row rfl ?_) resOk_tmp resOk_tmp) rfl ?_
    ·
     rw [hfin]; rfl
    have bf := Below.setRow (g := w.heap.size + 1) cy1 (Nat.le_succ _) (#[.slice (some ⟨pb, po, none⟩) x.rs.length pcap, .int .i64 x.ageing, .slice sa x.st.length scap, .slice ba x.bi.length bcap, .int .i64 x.c0, .int .i64 (x.c1 + 1), .int .i64 x.c2, .int .i64 x.c3, .int .i64 x.c4])
    refine ⟨⟨⟨(some ⟨pb, po, none⟩), pcap, sa, scap, ba, bcap⟩, rfl, { x with c1 := x.c1 + 1 }, rfl, _, by rw [hfin, HC.out]; rfl, ⟨HRF.out.ports.below bf, HRF.out.st.below bf, HRF.out.bi.below bf⟩, ?_, by rw [HC.out]; exact OwnL.nil _ _ _ _⟩, bf⟩
    rw [HC.out]
    exact { HRL.out with c1 := by show _ + 1 = _ + 1; rw [HRL.out.c1] }
   | false =>
    have HGR2 := Lib.hid hgr
    have HTO := Lib.hid hto
    clear hok hgr
    have hld := run_loadS_at (P := Tryz.prog) (t := 71) (hrd wc D).1 (by simp [rportV])
    have hit := fun W hW => (hrd W hW).2
    unfold rportV at hld
    obtain ⟨⟨⟨nat, tag, hor, lim⟩, q⟩, hr0⟩ : ∃ y, x.rs[k] = y := ⟨_, rfl⟩
    rw [hr0] at hld hit
    dsimp only at hld hit
    have HR0 := Lib.hid hr0
    have HIT := Lib.hid hit
    obtain ⟨o, ho⟩ : ∃ o, po + k * 5 = o := ⟨_, rfl⟩
    rw [ho] at hld
    obtain ⟨wd, hwd⟩ : ∃ y, wc.alloc (.cells #[Value.int .i64 nat, Value.slice ta tag.length tc, Value.int .i64 hor, Value.int .i64 lim, Value.int .i64 q] 71) = y := ⟨_, rfl⟩
    have bd : Below wc.heap.size wc wd := by rw [← hwd]; exact Below.alloc (Below.refl _ _) (Nat.le_refl _) _
    have zd : wd.heap.size = wc.heap.size + 1 := by rw [← hwd, alloc_sizeW]
    have rPd : row wd (w1.heap.size + 1) = #[Value.int .i64 nat, Value.slice ta tag.length tc, Value.int .i64 hor, Value.int .i64 lim, Value.int .i64 q] := by rw [← hwd]; exact row_alloc_at _ _ _ zc.symm
    have rBd := (row_below bd (by omega)).trans rB
    have rRd := (row_below bd (by omega)).trans rR
    have rXd := (row_below bd (by omega)).trans rX
    have Dd := D.trans (bd.mono D.size)
    have HM := Lib.hid (fun v w (h : IntsAt w ta tag) => r19Member_any nat ta tc tag v w h)
    clear hrd hr0 hit
    obtain ⟨v, HV0, hvw⟩ : ∃ v, vlOf nat vl = v ∧ ((vl ≤ 0 ∧ decide (vl ≤ 0) = true ∧ v = nat) ∨ (¬ vl ≤ 0 ∧ decide (vl ≤ 0) = false ∧ v = vl)) := ⟨_, rfl, vlOf_two nat vl⟩
    have HV := Lib.hid HV0
    clear HV0
    rcases hvw with ⟨hv, hvb, hvv⟩ | ⟨hv, hvb, hvv⟩
    all_goals
     have HVV := Lib.hid hvv
     clear hvv
     as_aux_lemma =>
      by_cases hq : q < 2
      ·
       have hqb := decide_eq_true hq
       have HC := Lib.hid (come_stop (t := t) HRL.out hk HOK.out HGR2.out HTO.out (.inl (by rw [HR0.out]; exact hq)))
       have hi1 : wrap64 (x.c2 + 1) = x.c2 + 1 := by unfold wrap64; omega
       have hi2 : IntKind.i64.wrap (x.c2 + 1) = x.c2 + 1 := by rw [wraps_i64 _ (by omega) (by omega)]
       obtain ⟨y1, hy1⟩ : ∃ y, wd.setRow w.heap.size #[.slice (some ⟨pb, po, none⟩) x.rs.length pcap, .int .i64 x.ageing, .slice sa x.st.length scap, .slice ba x.bi.length bcap, .int .i64 x.c0, .int .i64 x.c1, .int .i64 (x.c2 + 1), .int .i64 x.c3, .int .i64 x.c4] = y := ⟨_, rfl⟩
       have rB1 : row y1 w.heap.size = #[.slice (some ⟨pb, po, none⟩) x.rs.length pcap, .int .i64 x.ageing, .slice sa x.st.length scap, .slice ba x.bi.length bcap, .int .i64 x.c0, .int .i64 x.c1, .int .i64 (x.c2 + 1), .int .i64 x.c3, .int .i64 x.c4] := by rw [← hy1]; exact row_setRow_same (by rw [rBd]; simp) (by rw [rBd]; rfl)
       have rR1 : row y1 (w.heap.size + 1) = (Value.slice none 0 0 :: Value.int .i64 0 :: (zeros 2 (Value.slice none 0 0) ++ zeros 5 (Value.int .i64 0))).toArray := by rw [← hy1, row_setRow_other _ _ _ (by omega)]; exact rRd
       have zy1 : y1.heap.size = wd.heap.size := by rw [← hy1, setRow_size]
       have cy1 : Below w.heap.size w y1 := by rw [← hy1]; exact Below.setRow Dd (Nat.le_refl _) _
       go_wp2_with fail
       (try rw [hwc])
       (try clear hwc)
       (try rw [hwd])
       (try clear hwd)
       (try rw [hy1])
       (try clear hy1)
       go_wp2_with fail
       have hfin := row_setRow_same (w := y1) (g := w.heap.size + 1) (c := #[.slice (some ⟨pb, po, none⟩) x.rs.length pcap, .int .i64 x.ageing, .slice sa x.st.length scap, .slice ba x.bi.length bcap, .int .i64 x.c0, .int .i64 x.c1, .int .i64 (x.c2 + 1), .int .i64 x.c3, .int .i64 x.c4]) (by rw [rR1]; simp) (by rw [rR1]; simp)
       refine bodyPost_ret (results_3 rfl (resOk_row rfl ?_) resOk_tmp resOk_tmp) rfl ?_
       ·
        rw [hfin]; rfl
       have bf := Below.setRow (g := w.heap.size + 1) cy1 (Nat.le_succ _) (#[.slice (some ⟨pb, po, none⟩) x.rs.length pcap, .int .i64 x.ageing, .slice sa x.st.length scap, .slice ba x.bi.length bcap, .int .i64 x.c0, .int .i64 x.c1, .int .i64 (x.c2 + 1), .int .i64 x.c3, .int .i64 x.c4])
       refine ⟨⟨⟨(some ⟨pb, po, none⟩), pcap, sa, scap, ba, bcap⟩, rfl, { x with c2 := x.c2 + 1 }, rfl, _, by rw [hfin, HC.out]; rfl, ⟨HRF.out.ports.below bf, HRF.out.st.below bf, HRF.out.bi.below bf⟩, ?_, by rw [HC.out]; exact OwnL.nil _ _ _ _⟩, bf⟩
       rw [HC.out]
       exact { HRL.out with c2 := by show _ + 1 = _ + 1; rw [HRL.out.c2] }
      have hqb := decide_eq_false hq
      have hiD := HIT.out wd Dd
      cases hmb : memberP nat tag v with
      | false =>
       have HC := Lib.hid (come_stop (t := t) HRL.out hk HOK.out HGR2.out HTO.out (.inr (by rw [HR0.out]; dsimp only; rw [HV.out]; exact hmb)))
       have HMV := Lib.hid (fun w h => HM.out v w h)
       rw [hmb] at HMV
       rw [HVV.out] at HMV
       go_wp2_with fail
       (try rw [hwc])
       (try clear hwc)
       (try rw [hwd])
       (try clear hwd)
       (with_reducible refine (HMV.out _ hiD).mono ?_)
       rintro e we ⟨rfl, be⟩
       have ze := be.size
       have rBe := (row_below be (by omega)).trans rBd
       have rRe := (row_below be (by omega)).trans rRd
       have De := Dd.trans (be.mono Dd.size)
       clear rPd rXd rBd rRd
       have hi1 : wrap64 (x.c2 + 1) = x.c2 + 1 := by unfold wrap64; omega
       have hi2 : IntKind.i64.wrap (x.c2 + 1) = x.c2 + 1 := by rw [wraps_i64 _ (by omega) (by omega)]
       obtain ⟨y1, hy1⟩ : ∃ y, we.setRow w.heap.size #[.slice (some ⟨pb, po, none⟩) x.rs.length pcap, .int .i64 x.ageing, .slice sa x.st.length scap, .slice ba x.bi.length bcap, .int .i64 x.c0, .int .i64 x.c1, .int .i64 (x.c2 + 1), .int .i64 x.c3, .int .i64 x.c4] = y := ⟨_, rfl⟩
       have rB1 : row y1 w.heap.size = #[.slice (some ⟨pb, po, none⟩) x.rs.length pcap, .int .i64 x.ageing, .slice sa x.st.length scap, .slice ba x.bi.length bcap, .int .i64 x.c0, .int .i64 x.c1, .int .i64 (x.c2 + 1), .int .i64 x.c3, .int .i64 x.c4] := by rw [← hy1]; exact row_setRow_same (by rw [rBe]; simp) (by rw [rBe]; rfl)
       have rR1 : row y1 (w.heap.size + 1) = (Value.slice none 0 0 :: Value.int .i64 0 :: (zeros 2 (Value.slice none 0 0) ++ zeros 5 (Value.int .i64 0))).toArray := by rw [← hy1, row_setRow_other _ _ _ (by omega)]; exact rRe
       have zy1 : y1.heap.size = we.heap.size := by rw [← hy1, setRow_size]
       have cy1 : Below w.heap.size w y1 := by rw [← hy1]; exact Below.setRow De (Nat.le_refl _) _
       go_wp2_with fail
       (try rw [hy1])
       (try clear hy1)
       go_wp2_with fail
       have hfin := row_setRow_same (w := y1) (g := w.heap.size + 1) (c := #[.slice (some ⟨pb, po, none⟩) x.rs.length pcap, .int .i64 x.ageing, .slice sa x.st.length scap, .slice ba x.bi.length bcap, .int .i64 x.c0, .int .i64 x.c1, .int .i64 (x.c2 + 1), .int .i64 x.c3, .int .i64 x.c4]) (by rw [rR1]; simp) (by rw [rR1]; simp)
       refine bodyPost_ret (results_3 rfl (resOk_row rfl ?_) resOk_tmp resOk_tmp) rfl ?_
       ·
        rw [hfin]; rfl
       have bf := Below.setRow (g := w.heap.size + 1) cy1 (Nat.le_succ _) (#[.slice (some ⟨pb, po, none⟩) x.rs.length pcap, .int .i64 x.ageing, .slice sa x.st.length scap, .slice ba x.bi.length bcap, .int .i64 x.c0, .int .i64 x.c1, .int .i64 (x.c2 + 1), .int .i64 x.c3, .int .i64 x.c4])
       refine ⟨⟨⟨(some ⟨pb, po, none⟩), pcap, sa, scap, ba, bcap⟩, rfl, { x with c2 := x.c2 + 1 }, rfl, _, by rw [hfin, HC.out]; rfl, ⟨HRF.out.ports.below bf, HRF.out.st.below bf, HRF.out.bi.below bf⟩, ?_, by rw [HC.out]; exact OwnL.nil _ _ _ _⟩, bf⟩
       rw [HC.out]
       exact { HRL.out with c2 := by show _ + 1 = _ + 1; rw [HRL.out.c2] }
      | true =>
       have HMV := Lib.hid (fun w h => HM.out v w h)
       rw [hmb] at HMV
       rw [HVV.out] at HMV
       have hmr := member_range hmb
       have HLN := Lib.hid (fun w la lcap (h : ElemsAt w sa 10 (x.st.map entC)) (hL : IntsAt w la (x.rs.map (·.p.lim))) => r20Learn_lim v src k x.rs.length x.st (x.rs.map (·.p.lim)) lim sa la scap lcap w h hL (by rw [HRL.out.st.length_eq]; have := HG.out.stn; omega) HDX.out hmr.1 hmr.2 (by rw [HSB.out]; omega) (by rw [List.length_map]) hk (by rw [List.getElem?_map, List.getElem?_eq_getElem hk, HR0.out]; rfl) (by omega))
       rw [HVV.out] at HLN
       have HLM := Lib.hid (fun w (h : RPortsAt w (some ⟨pb, po, none⟩) x.rs) => r22limits_any ⟨some ⟨pb, po, none⟩, pcap, sa, scap, ba, bcap⟩ x w h (by omega))
       unfold refV at HLM
       dsimp only at HLM
       have HGO := Lib.hid (come_go (t := t) HRL.out hk HOK.out HGR2.out HTO.out (by rw [HR0.out]; exact hq) (by rw [HR0.out]; dsimp only; rw [HV.out]; exact hmb))
       rw [HR0.out] at HGO
       dsimp only at HGO
       rw [HV.out] at HGO
       clear hmb
       go_wp2_with fail
       (try rw [hwc])
       (try clear hwc)
       (try rw [hwd])
       (try clear hwd)
       (with_reducible refine (HMV.out _ hiD).mono ?_)
       rintro e we ⟨rfl, be⟩
       have ze := be.size
       have rBe := (row_below be (by omega)).trans rBd
       have rRe := (row_below be (by omega)).trans rRd
       have rXe := (row_below be (by omega)).trans rXd
       have rPe := (row_below be (by omega)).trans rPd
       have De := Dd.trans (be.mono Dd.size)
       clear rPd rXd rBd rRd hiD Dd rB rR rX D cS hld
       go_wp2_with fail
       refine wp_region_beginK 14 [(w.heap.size, #[.slice (some ⟨pb, po, none⟩) x.rs.length pcap, .int .i64 x.ageing, .slice sa x.st.length scap, .slice ba x.bi.length bcap, .int .i64 x.c0, .int .i64 x.c1, .int .i64 x.c2, .int .i64 x.c3, .int .i64 x.c4]), (w1.heap.size, (u8v dst ++ (u8v src ++ [Value.int .i64 ty, .string ⟨body.toArray⟩, .int .i64 vl, .int .i64 prio])).toArray)] [] rfl (by simp only [Rws]; (repeat (first | exact trivial | refine ⟨(by first | assumption | (simp [go_sem, *]; done)), (by first | omega | (simp; done) | (simp; omega)), ?_⟩))) (fun hS => ?_)
       refine kp 0 hS ?_
       refine kp 1 hS ?_
       refine kp 2 hS ?_
       refine kp 4 hS ?_
       refine kp 5 hS ?_
       refine kp 6 hS ?_
       refine kp 7 hS ?_
       refine kp 8 hS ?_
       refine wpAnyK_op1 3 (by kernel_rfl) (by decide) (fun u3 hu3 => ?_)
       refine wpOp_step rfl (fun K hK => ?_)
       clear hS
       go_simp
       replace hu3 : Below we.heap.size we u3 := below_step (Below.drew (Below.refl _ _)) hu3
       have zu3 := hu3.size
       have rBu3 := (row_below hu3 (by omega)).trans rBe
       have rXu3 := (row_below hu3 (by omega)).trans rXe
       have c3 := De.trans (hu3.mono De.size)
       (with_reducible refine (HLM.out _ (HRF.out.ports.below c3)).mono ?_)
       rintro e u4 ⟨⟨la, lcap, rfl, hlims⟩, b34⟩
       have zu4 := b34.size
       have rBu4 := (row_below b34 (by omega)).trans rBu3
       have rXu4 := (row_below b34 (by omega)).trans rXu3
       refine hK _ _ ⟨⟨rBu4, by omega, rXu4, by omega, trivial⟩, ?_⟩
       clear hK K
       refine wpAnyK_op1 9 (by kernel_rfl) (by decide) (fun u5 hu5 => ?_)
       refine wpOp_step rfl (fun K hK => ?_)
       go_simp
       have zu5 := hu5.size
       have rBu5 := (row_below hu5 (by omega)).trans rBu4
       have rXu5 := (row_below hu5 (by omega)).trans rXu4
       have c5 := (c3.trans (b34.mono c3.size)).trans (hu5.mono (Nat.le_trans c3.size zu4))
       (with_reducible refine (HLN.out _ _ _ (HRF.out.st.below c5) (hlims.below hu5)).mono ?_)
       rintro e u6 ⟨⟨v', l', ⟨lc, rfl⟩, ⟨sa', sc', rfl, hE6⟩, hperm⟩, b56⟩
       rw [List.length_map]
       have zu6 := b56.size
       have rBu6 := (row_below b56 (by omega)).trans rBu5
       have rXu6 := (row_below b56 (by omega)).trans rXu5
       have b36 : Below we.heap.size we u6 := hu3.trans ((b34.mono zu3).trans ((hu5.mono (by omega)).trans (b56.mono (by omega))))
       have hS : Rws [(w.heap.size, #[.slice (some ⟨pb, po, none⟩) x.rs.length pcap, .int .i64 x.ageing, .slice sa x.st.length scap, .slice ba x.bi.length bcap, .int .i64 x.c0, .int .i64 x.c1, .int .i64 x.c2, .int .i64 x.c3, .int .i64 x.c4]), (w1.heap.size, (u8v dst ++ (u8v src ++ [Value.int .i64 ty, .string ⟨body.toArray⟩, .int .i64 vl, .int .i64 prio])).toArray)] u6 := ⟨rBu6, by omega, rXu6, by omega, trivial⟩
       refine hK _ _ ⟨hS, ?_⟩
       clear hK K
       (try simp only [Act.put, List.setIfInBounds_toArray, List.set_cons_zero, List.set_cons_succ])
       refine kp 10 hS ?_
       refine kp 11 hS ?_
       refine wpAnyK_both (i := 12) (v := ?_) (by simp only [List.getElem?_toArray, List.getElem?_cons_succ, List.getElem?_cons_zero]; rfl) (by kernel_rfl) (by kernel_rfl) (by kernel_rfl) (by decide) (by first | exact fun _ _ _ h => h | exact fun _ _ _ h => by cases h.1) (Rws.grow _) (Rws.grow _) (by intro w h; simp only [Rws] at h ⊢; (try simp only [h, and_self])) (Or.inl ⟨by rfl, ?_⟩) hS ?_
       rotate_left
       ·
        intro w' hS'
        simp only [Rws] at hS'
        go_simp
        refine ⟨?_, Below.refl _ _⟩
        rfl
       (try simp only [Act.put, List.setIfInBounds_toArray, List.set_cons_zero, List.set_cons_succ])
       refine kp 13 hS ?_
       refine wpAnyK_store (k := 14) (by simp only [List.getElem?_toArray, List.getElem?_cons_succ, List.getElem?_cons_zero]; rfl) rfl rfl (by kernel_rfl) (fun y hy => ?_)
       have zy := hy.size
       have rBy := (row_below hy (by omega)).trans rBu6
       obtain ⟨y2, hy2⟩ : ∃ q, y.setRow w.heap.size #[.slice (some ⟨pb, po, none⟩) x.rs.length pcap, .int .i64 x.ageing, .slice sa' l'.length sc', .slice ba x.bi.length bcap, .int .i64 x.c0, .int .i64 x.c1, .int .i64 x.c2, .int .i64 x.c3, .int .i64 x.c4] = q := ⟨_, rfl⟩
       refine ⟨y2, ?_, trivial, fun hS => ?_⟩
       ·
        rw [← hy2]
        go_simp
        try exact ⟨_, _, rfl, rfl⟩
       refine wpAnyR_done (by kernel_rfl) (fun wf bf => ?_) _
       have zf := bf.size
       have zy2 : y2.heap.size = y.heap.size := by rw [← hy2, setRow_size]
       have b3y : Below we.heap.size we y := b36.trans (hy.mono (by omega))
       have zwe := De.size
       have rBf : row wf w.heap.size = #[.slice (some ⟨pb, po, none⟩) x.rs.length pcap, .int .i64 x.ageing, .slice sa' l'.length sc', .slice ba x.bi.length bcap, .int .i64 x.c0, .int .i64 x.c1, .int .i64 x.c2, .int .i64 x.c3, .int .i64 x.c4] := by rw [row_below bf (by omega), ← hy2]; exact row_setRow_same (by rw [rBy]; simp) (by rw [rBy]; rfl)
       have keep : ∀ q, q < we.heap.size → q ≠ w.heap.size → row wf q = row we q := fun q hq hn => by rw [row_below bf (by omega), ← hy2, row_setRow_other _ _ _ hn, row_below b3y hq]
       have rRf := (keep _ (by omega) (by omega)).trans rRe
       have rXf := (keep _ (by omega) (by omega)).trans rXe
       have rPf := (keep _ (by omega) (by omega)).trans rPe
       have hE9 : ElemsOff [w.heap.size, w.heap.size + 1] y sa' 10 (l'.map entC) := ent_off (hE6.below hy) (by
        intro b hb
        rcases List.mem_cons.1 hb with rfl | hb
        ·
         rw [rBy]; rfl
        ·
         obtain rfl := List.mem_singleton.1 hb
         rw [row_below b3y (by omega), rRe]; rfl)
       have hEf : ElemsOff [w.heap.size, w.heap.size + 1] wf sa' 10 (l'.map entC) := by
        refine (hE9.kept (w' := y2) ?_).below bf
        rw [← hy2]
        exact BelowS.set y _ (by simp)
       have Df : Below w.heap.size w wf := (Below.trans (by rw [← hy2]; exact Below.setRow (De.trans (b3y.mono De.size)) (Nat.le_refl _) _ : Below w.heap.size w y2) (bf.mono (by rw [zy2]; omega)))
       have zwf : we.heap.size ≤ wf.heap.size := by omega
       have HEF := Lib.hid hEf
       have HPM := Lib.hid (show l'.Perm (hearL lim v src k s.st) by rw [HVV.out]; exact hperm.trans (hear_perm HDX.out HRL.out.st))
       clear hEf hE9 hE6 keep hperm hS bf hy2 hy b3y b36 b56 hu5 b34 hu3 rBy rBu6 rXu6 rBu5 rXu5 rBu4 rXu4 rBu3 rXu3 hlims c5 c3 rBe rRe rXe rPe De be zu3 zu4 zu5 zu6 zy zy2
       cases hq2 : (q == 2) with
       | true =>
        have HC := Lib.hid (HGO.out.trans (if_pos (show q < 3 by have := beq_iff_eq.1 hq2; omega)))
        have hi1 : wrap64 (x.c2 + 1) = x.c2 + 1 := by unfold wrap64; omega
        have hi2 : IntKind.i64.wrap (x.c2 + 1) = x.c2 + 1 := by rw [wraps_i64 _ (by omega) (by omega)]
        obtain ⟨y1, hy1⟩ : ∃ y, wf.setRow w.heap.size #[.slice (some ⟨pb, po, none⟩) x.rs.length pcap, .int .i64 x.ageing, .slice sa' l'.length sc', .slice ba x.bi.length bcap, .int .i64 x.c0, .int .i64 x.c1, .int .i64 (x.c2 + 1), .int .i64 x.c3, .int .i64 x.c4] = y := ⟨_, rfl⟩
        have rB1 : row y1 w.heap.size = #[.slice (some ⟨pb, po, none⟩) x.rs.length pcap, .int .i64 x.ageing, .slice sa' l'.length sc', .slice ba x.bi.length bcap, .int .i64 x.c0, .int .i64 x.c1, .int .i64 (x.c2 + 1), .int .i64 x.c3, .int .i64 x.c4] := by rw [← hy1]; exact row_setRow_same (by rw [rBf]; simp) (by rw [rBf]; rfl)
        have rR1 : row y1 (w.heap.size + 1) = (Value.slice none 0 0 :: Value.int .i64 0 :: (zeros 2 (Value.slice none 0 0) ++ zeros 5 (Value.int .i64 0))).toArray := by rw [← hy1, row_setRow_other _ _ _ (by omega)]; exact rRf
        have zy1 : y1.heap.size = wf.heap.size := by rw [← hy1, setRow_size]
        have cy1 : Below w.heap.size w y1 := by rw [← hy1]; exact Below.setRow Df (Nat.le_refl _) _
        have HY1 := Lib.hid hy1.symm
        go_wp2_with fail
        (try rw [hy1])
        (try clear hy1)
        go_wp2_with fail
        have hfin := row_setRow_same (w := y1) (g := w.heap.size + 1) (c := #[.slice (some ⟨pb, po, none⟩) x.rs.length pcap, .int .i64 x.ageing, .slice sa' l'.length sc', .slice ba x.bi.length bcap, .int .i64 x.c0, .int .i64 x.c1, .int .i64 (x.c2 + 1), .int .i64 x.c3, .int .i64 x.c4]) (by rw [rR1]; simp) (by rw [rR1]; simp)
        refine bodyPost_ret (results_3 rfl (resOk_row rfl ?_) resOk_tmp resOk_tmp) rfl ?_
        ·
         rw [hfin]; rfl
        have bf := Below.setRow (g := w.heap.size + 1) cy1 (Nat.le_succ _) (#[.slice (some ⟨pb, po, none⟩) x.rs.length pcap, .int .i64 x.ageing, .slice sa' l'.length sc', .slice ba x.bi.length bcap, .int .i64 x.c0, .int .i64 x.c1, .int .i64 (x.c2 + 1), .int .i64 x.c3, .int .i64 x.c4])
        have hbs1 : BelowS wf.heap.size [w.heap.size, w.heap.size + 1] wf y1 := by rw [HY1.out]; exact BelowS.set wf _ (by simp)
        have hbs2 : BelowS y1.heap.size [w.heap.size, w.heap.size + 1] y1 (y1.setRow (w.heap.size + 1) #[.slice (some ⟨pb, po, none⟩) x.rs.length pcap, .int .i64 x.ageing, .slice sa' l'.length sc', .slice ba x.bi.length bcap, .int .i64 x.c0, .int .i64 x.c1, .int .i64 (x.c2 + 1), .int .i64 x.c3, .int .i64 x.c4]) := BelowS.set y1 _ (by simp)
        refine ⟨⟨⟨(some ⟨pb, po, none⟩), pcap, sa', sc', ba, bcap⟩, rfl, { x with st := l', c2 := x.c2 + 1 }, rfl, _, by rw [hfin, HC.out]; rfl, ⟨HRF.out.ports.below bf, ((HEF.out.kept hbs1).kept hbs2).elems, HRF.out.bi.below bf⟩, ?_, by rw [HC.out]; exact OwnL.nil _ _ _ _⟩, bf⟩
        rw [HC.out]
        exact { HRL.out with st := HPM.out, c2 := by show _ + 1 = _ + 1; rw [HRL.out.c2] }
       | false =>
        have hq3 : ¬ q < 3 := by
         intro h3
         have : q = 2 := by omega
         rw [this] at hq2
         cases hq2
        have HC2 := Lib.hid (HGO.out.trans (if_neg hq3))
        have htk := HT.out _ HOK.out
        dsimp only at htk
        have HLB := Lib.hid (fun w (h : ElemsAt w ba 9 (x.bi.map bindC)) => rlearn_any dst src ty body t.ip t.mac t.ok htk.ann v x.bi ba bcap w h (by rw [HRL.out.bi]; exact HG.out.bin) (by rw [HRL.out.bi]; exact HG.out.bid))
        have HTK := Lib.hid htk
        have hbf := HRF.out.bi.below Df
        obtain ⟨m2, hm2⟩ : ∃ y, learnH v t.ip t.mac t.ok x.bi = y := ⟨_, rfl⟩
        rw [hm2] at HLB
        rw [HVV.out] at HLB
        have HM2 := Lib.hid hm2
        have HBN := Lib.hid (show m2.length ≤ 1024 by rw [← hm2, HRL.out.bi]; exact len_learn HG.out.bin)
        clear htk hm2
        have hmI2 : (m2.length : Int) ≤ 1024 := by have := HBN.out; omega
        unfold frameV at HLB
        go_wp2_with fail
        (with_reducible refine (HLB.out _ hbf).mono ?_)
        rintro e w5 ⟨vb, rfl, ⟨ba', bc', rfl, hB5⟩, b5⟩
        rw [List.length_map]
        have z5 := b5.size
        have rB5 := (row_below b5 (by omega)).trans rBf
        have rR5 := (row_below b5 (by omega)).trans rRf
        have rX5 := (row_below b5 (by omega)).trans rXf
        have D5 := Df.trans (b5.mono Df.size)
        obtain ⟨w6, hw6⟩ : ∃ y, w5.setRow w.heap.size #[.slice (some ⟨pb, po, none⟩) x.rs.length pcap, .int .i64 x.ageing, .slice sa' l'.length sc', .slice ba' m2.length bc', .int .i64 x.c0, .int .i64 x.c1, .int .i64 x.c2, .int .i64 x.c3, .int .i64 x.c4] = y := ⟨_, rfl⟩
        have z6 : w6.heap.size = w5.heap.size := by rw [← hw6, setRow_size]
        have rB6 : row w6 w.heap.size = #[.slice (some ⟨pb, po, none⟩) x.rs.length pcap, .int .i64 x.ageing, .slice sa' l'.length sc', .slice ba' m2.length bc', .int .i64 x.c0, .int .i64 x.c1, .int .i64 x.c2, .int .i64 x.c3, .int .i64 x.c4] := by rw [← hw6]; exact row_setRow_same (by rw [rB5]; simp) (by rw [rB5]; rfl)
        have rR6 : row w6 (w.heap.size + 1) = (Value.slice none 0 0 :: Value.int .i64 0 :: (zeros 2 (Value.slice none 0 0) ++ zeros 5 (Value.int .i64 0))).toArray := by rw [← hw6, row_setRow_other _ _ _ (by omega)]; exact rR5
        have rX6 : row w6 w1.heap.size = (u8v dst ++ (u8v src ++ [Value.int .i64 ty, .string ⟨body.toArray⟩, .int .i64 vl, .int .i64 prio])).toArray := by rw [← hw6, row_setRow_other _ _ _ (by omega)]; exact rX5
        have D6 : Below w.heap.size w w6 := by rw [← hw6]; exact Below.setRow D5 (Nat.le_refl _) _
        have hs56 : BelowS w5.heap.size [w.heap.size, w.heap.size + 1] w5 w6 := by rw [← hw6]; exact BelowS.set w5 _ (by simp)
        have HB6 := Lib.hid ((bind_off (S := [w.heap.size, w.heap.size + 1]) hB5 (by
         intro b hb
         rcases List.mem_cons.1 hb with rfl | hb
         ·
          rw [rB5]; exact ⟨rfl, _, _, _, rfl⟩
         ·
          obtain rfl := List.mem_singleton.1 hb
          rw [rR5]; exact ⟨rfl, _, _, _, rfl⟩)).kept hs56)
        have HE6 := Lib.hid ((HEF.out.below b5).kept hs56)
        clear hB5 hs56 b5 rR5 rX5 rBf rRf rXf rPf D5 hbf HLB
        go_wp2_with fail
        (try rw [hw6])
        (try clear hw6)
        clear rB5
        cases hask : t.ask with
        | none =>
         obtain ⟨ipq, hrq⟩ := HTK.out.no hask
         have HN := Lib.hid (show askS v t m2 = none by unfold askS; rw [hask])
         have HQ := Lib.hid hrq
         clear hrq hask
         unfold RAskC frameV at HQ
         (with_reducible refine (HQ.out _).mono ?_)
         rintro e w7 ⟨rfl, b7⟩
         have z7 := b7.size
         have rB7 := (row_below b7 (by omega)).trans rB6
         have rR7 := (row_below b7 (by omega)).trans rR6
         have rX7 := (row_below b7 (by omega)).trans rX6
         have D7 := D6.trans (b7.mono D6.size)
         have HB7 := Lib.hid (HB6.out.below b7)
         have HE7 := Lib.hid (HE6.out.below b7)
         clear b7 rB6 rR6 rX6 D6 HB6 HE6
         go_wp2_with fail
         go_loopw [15] (fun i wr => ∃ j : Nat, j ≤ m2.length ∧ i = .int .i64 j ∧ Below w7.heap.size w7 wr) (fun i _ => m2.length - (intOf i).toNat)
         case atStart => exact ⟨0, by omega, rfl, Below.refl _ _⟩
         case round =>
          obtain ⟨j, hj, rfl, cr⟩ := hrel
          have zr := cr.size
          have rBr := (row_below cr (by omega)).trans rB7
          have rRr := (row_below cr (by omega)).trans rR7
          have rXr := (row_below cr (by omega)).trans rX7
          have Dr := D7.trans (cr.mono D7.size)
          have HBR := Lib.hid (HB7.out.below cr)
          have HER := Lib.hid (HE7.out.below cr)
          clear rB7 rR7 rX7 D7
          rcases (show (j : Int) < (m2.length : Int) ∨ ¬ (j : Int) < (m2.length : Int) by omega) with hjI | hjI
          all_goals
           as_aux_lemma =>
            have HC := Lib.hid (show comeS s k l t = ({ s with st := hearL lim v src k s.st, bi := m2, c3 := s.c3 + 1 }, relayedS s (hearL lim v src k s.st) k v dst src ty body prio, 0) by rw [HC2.out, ← HRL.out.bi, HM2.out, HN.out])
            have hi1 : wrap64 (x.c3 + 1) = x.c3 + 1 := by unfold wrap64; omega
            have hi2 : IntKind.i64.wrap (x.c3 + 1) = x.c3 + 1 := by rw [wraps_i64 _ (by omega) (by omega)]
            obtain ⟨y1, hy1⟩ : ∃ y, wr.setRow w.heap.size #[.slice (some ⟨pb, po, none⟩) x.rs.length pcap, .int .i64 x.ageing, .slice sa' l'.length sc', .slice ba' m2.length bc', .int .i64 x.c0, .int .i64 x.c1, .int .i64 x.c2, .int .i64 (x.c3 + 1), .int .i64 x.c4] = y := ⟨_, rfl⟩
            have rB1 : row y1 w.heap.size = #[.slice (some ⟨pb, po, none⟩) x.rs.length pcap, .int .i64 x.ageing, .slice sa' l'.length sc', .slice ba' m2.length bc', .int .i64 x.c0, .int .i64 x.c1, .int .i64 x.c2, .int .i64 (x.c3 + 1), .int .i64 x.c4] := by rw [← hy1]; exact row_setRow_same (by rw [rBr]; simp) (by rw [rBr]; rfl)
            have rR1 : row y1 (w.heap.size + 1) = (Value.slice none 0 0 :: Value.int .i64 0 :: (zeros 2 (Value.slice none 0 0) ++ zeros 5 (Value.int .i64 0))).toArray := by rw [← hy1, row_setRow_other _ _ _ (by omega)]; exact rRr
            have rX1 : row y1 w1.heap.size = (u8v dst ++ (u8v src ++ [Value.int .i64 ty, .string ⟨body.toArray⟩, .int .i64 vl, .int .i64 prio])).toArray := by rw [← hy1, row_setRow_other _ _ _ (by omega)]; exact rXr
            have zy1 : y1.heap.size = wr.heap.size := by rw [← hy1, setRow_size]
            have cy1 : Below w.heap.size w y1 := by rw [← hy1]; exact Below.setRow Dr (Nat.le_refl _) _
            have hsy : BelowS wr.heap.size [w.heap.size, w.heap.size + 1] wr y1 := by rw [← hy1]; exact BelowS.set wr _ (by simp)
            have HBY := Lib.hid (HBR.out.kept hsy)
            have HEY := Lib.hid (HER.out.kept hsy)
            have HLL := Lib.hid (show l'.length ≤ 1000 by rw [HPM.out.length_eq]; have := @lenL_hear lim v src k s.st; have := HG.out.stn; omega)
            have HFN := Lib.hid (fun w (h : ElemsAt w sa' 10 (l'.map entC)) => r20Find_any v dst l' sa' sc' w h HLL.out)
            have HFP := Lib.hid (find_perm (v := v) (mac := dst) (dist_perm (distL_hear HG.out.std) HPM.out.symm) HPM.out)
            obtain ⟨pz, hpz⟩ : ∃ y, posI v dst l' = y := ⟨_, rfl⟩
            have HPZ := Lib.hid (pos_cases v dst l')
            rw [hpz] at HFN HPZ
            rw [HVV.out] at HFN
            have HRP : RPortsAt y1 (some ⟨pb, po, none⟩) x.rs := HRF.out.ports.below cy1
            have HRPH := Lib.hid HRP
            obtain ⟨F, hF⟩ : ∃ f, relF s (hearL lim v src k s.st) k v dst src ty body prio = f := ⟨_, rfl⟩
            have HF := Lib.hid hF
            have HMY := Lib.hid (fun (to : Nat) (ht : to < x.rs.length) w (h : RPortsAt w (some ⟨pb, po, none⟩) x.rs) => r22may_any ⟨some ⟨pb, po, none⟩, pcap, sa', sc', ba', bc'⟩ { x with st := l', bi := m2, c3 := x.c3 + 1 } k to v w h hk ht (by show x.rs.length ≤ 1000; omega))
            have HGS := Lib.hid (fun (to : Nat) (ht : to < x.rs.length) w (h : RPortsAt w (some ⟨pb, po, none⟩) x.rs) => r22goes_any ⟨some ⟨pb, po, none⟩, pcap, sa', sc', ba', bc'⟩ { x with st := l', bi := m2, c3 := x.c3 + 1 } to v dst src ty body prio w h ht (by show x.rs.length ≤ 1000; omega) (by have := (ethParse_prio HOK.out).2.2; dsimp only at this; omega))
            unfold refV at HMY HGS
            unfold frameV at HGS
            dsimp only at HMY HGS
            obtain ⟨db, hdb⟩ : ∃ y, dst[0] = y := ⟨_, rfl⟩
            have hd0 : (u8v dst)[0]? = some (.int .u8 (db.toNat : Int)) := by rw [← hdb]; simp [u8v, u8s]
            have HGR3 := Lib.hid (grp_rem (mac := dst) (b := grp dst) rfl)
            rw [hdb] at HGR3
            clear hpz hF hsy HRP hdb
            have hey := HEY.out.elems
            go_wp2_with fail
            (try rw [hy1])
            (try clear hy1)
            (with_reducible refine (HFN.out _ hey).mono ?_)
            rintro e y2 ⟨rfl, by2⟩
            have zy2 := by2.size
            have rB2 := (row_below by2 (by omega)).trans rB1
            have rR2 := (row_below by2 (by omega)).trans rR1
            have rX2 := (row_below by2 (by omega)).trans rX1
            have cy2 := cy1.trans (by2.mono cy1.size)
            have HB2 := Lib.hid (HBY.out.below by2)
            have HE2 := Lib.hid (HEY.out.below by2)
            have hlo : w1.heap.size + 1 ≤ y2.heap.size := by omega
            clear rB1 rR1 rX1 by2 hey rBr rRr rXr Dr zy1 zy2 cr zr
            go_wp2_with fail
            go_loopw [17, 18] (fun u i wr => ∃ j : Nat, j ≤ x.rs.length ∧ i = .int .i64 j ∧ OwnL wr y2.heap.size 52 2 u (((List.range j).flatMap F).map outC) ∧ Below y2.heap.size y2 wr) (fun _ i _ => x.rs.length - (intOf i).toNat)
            case atStart => exact ⟨0, by omega, rfl, OwnL.nil _ _ _ _, Below.refl _ _⟩
            case round =>
             obtain ⟨j, hj, rfl, hown, cl⟩ := hrel
             have zl := cl.size
             have rBl := (row_below cl (by omega)).trans rB2
             have rRl := (row_below cl (by omega)).trans rR2
             have rXl := (row_below cl (by omega)).trans rX2
             have Dl := cy2.trans (cl.mono cy2.size)
             have HOW := Lib.hid hown
             by_cases hlt : j < x.rs.length
             ·
              have hjI : (j : Int) < (x.rs.length : Int) := by omega
              have hjp : RPortsAt wr (some ⟨pb, po, none⟩) x.rs := HRF.out.ports.below Dl
              have HMJ := Lib.hid (HMY.out j hlt)
              have HGJ := Lib.hid (HGS.out j hlt)
              obtain ⟨mr, hmr2⟩ : ∃ y, mayR x.rs[k] x.rs[j] k j v = y := ⟨_, rfl⟩
              rw [hmr2] at HMJ
              rw [HVV.out] at HMJ HGJ
              have HMR := Lib.hid hmr2
              have HSN := Lib.hid (flat_snoc F j)
              have HFJ := fun b (h : (mr && (grp dst || atPort (findL v dst (hearL lim v src k s.st)) j)) = b) => (show F j = if b then printedS x.rs[j].p j v dst src ty body prio else [] by rw [← HF.out]; exact rel_eq HRL.out hk hlt v _ dst src ty body prio (by rw [HMR.out]; exact h))
              have HFJH := Lib.hid HFJ
              clear hown hmr2 HFJ
              cases mr with
              | false =>
               have HK := Lib.hid (HFJH.out false rfl)
               go_wp2_with fail
               (with_reducible refine (HMJ.out _ hjp).mono ?_)
               rintro e y3 ⟨rfl, b3⟩
               have z3 := b3.size
               go_wp2_with fail
               go_roundw
               case rel => exact ⟨j + 1, by omega, by simp, by rw [HSN.out, HK.out]; simpa using HOW.out.below b3, cl.trans (b3.mono cl.size)⟩
               case measure => simp [intOf]; omega
              | true =>
               cases hgd : grp dst with
               | true =>
                have hm := (HGR3.out).2
                have hm2 := (HGR3.out).1
                rw [hgd, if_pos rfl] at hm hm2
                have HK := Lib.hid (HFJH.out true (by rw [hgd]; rfl))
                clear hgd
                go_wp2_with fail
                (with_reducible refine (HMJ.out _ hjp).mono ?_)
                rintro e y3 ⟨rfl, b3⟩
                have z3 := b3.size
                have rB3 := (row_below b3 (by omega)).trans rBl
                have rX3 := (row_below b3 (by omega)).trans rXl
                have cD : y3.cell? ⟨w1.heap.size, 0, none⟩ = some (.int .u8 (db.toNat : Int)) := by
                 rw [cell_of_row' (by rw [rX3]; simp), rX3, List.getElem?_toArray, List.getElem?_append_left (by simp)]
                 simpa using hd0
                have cl3 := cl.trans (b3.mono cl.size)
                have D3 := Dl.trans (b3.mono Dl.size)
                have hjp3 := hjp.below b3
                have HO3 := Lib.hid (HOW.out.below b3)
                clear rBl rXl
                go_wp2_with fail
                (with_reducible refine (HGJ.out _ hjp3).mono ?_)
                rintro e y4 ⟨⟨uo, rfl, ho4⟩, b4⟩
                rw [← HVV.out] at ho4
                have z4 := b4.size
                have HO4 := Lib.hid (HO3.out.below b4)
                have HL4 := Lib.hid (show (((List.range j).flatMap F).map outC).length + ((printedS x.rs[j].p j v dst src ty body prio).map outC).length ≤ 10000 by
                 rw [List.length_map, List.length_map, ← HF.out]
                 have h1 := flat_range_len (relF_len s (hearL lim v src k s.st) k v dst src ty body prio) j
                 have h2 := printedS_len x.rs[j].p j v dst src ty body prio
                 omega)
                have cl4 := cl3.trans (b4.mono cl3.size)
                go_wp2_with (at_builtin; refine wpList_appendLs rfl rfl Tryz.underlying47 r22outInfo (by decide) (by decide) y2.heap.size _ _ rfl HO4.out _ _ _ rfl ho4 (outC_ones _) HL4.out (by omega) ?_)
                intro v5 w5 o5 b5
                go_wp2_with fail
                go_roundw
                case rel => exact ⟨j + 1, by omega, by simp, by rw [HSN.out, HK.out, if_pos trivial, List.map_append]; exact o5, cl4.trans b5⟩
                case measure => simp [intOf]; omega
               | false =>
                have hm := (HGR3.out).2
                have hm2 := (HGR3.out).1
                rw [hgd, if_neg (by decide)] at hm hm2
                rcases HPZ.out with ⟨hp0, hfn⟩ | ⟨jx, hjx, hpe, hfn⟩
                ·
                 have HK := Lib.hid (HFJH.out true (by rw [hgd, ← HFP.out, hfn]; rfl))
                 have hp0b := decide_eq_true hp0
                 clear hgd hfn
                 go_wp2_with fail
                 (with_reducible refine (HMJ.out _ hjp).mono ?_)
                 rintro e y3 ⟨rfl, b3⟩
                 have z3 := b3.size
                 have rB3 := (row_below b3 (by omega)).trans rBl
                 have rX3 := (row_below b3 (by omega)).trans rXl
                 have cD : y3.cell? ⟨w1.heap.size, 0, none⟩ = some (.int .u8 (db.toNat : Int)) := by
                  rw [cell_of_row' (by rw [rX3]; simp), rX3, List.getElem?_toArray, List.getElem?_append_left (by simp)]
                  simpa using hd0
                 have cl3 := cl.trans (b3.mono cl.size)
                 have D3 := Dl.trans (b3.mono Dl.size)
                 have hjp3 := hjp.below b3
                 have HO3 := Lib.hid (HOW.out.below b3)
                 clear rBl rXl
                 go_wp2_with fail
                 (with_reducible refine (HGJ.out _ hjp3).mono ?_)
                 rintro e y4 ⟨⟨uo, rfl, ho4⟩, b4⟩
                 rw [← HVV.out] at ho4
                 have z4 := b4.size
                 have HO4 := Lib.hid (HO3.out.below b4)
                 have HL4 := Lib.hid (show (((List.range j).flatMap F).map outC).length + ((printedS x.rs[j].p j v dst src ty body prio).map outC).length ≤ 10000 by
                  rw [List.length_map, List.length_map, ← HF.out]
                  have h1 := flat_range_len (relF_len s (hearL lim v src k s.st) k v dst src ty body prio) j
                  have h2 := printedS_len x.rs[j].p j v dst src ty body prio
                  omega)
                 have cl4 := cl3.trans (b4.mono cl3.size)
                 go_wp2_with (at_builtin; refine wpList_appendLs rfl rfl Tryz.underlying47 r22outInfo (by decide) (by decide) y2.heap.size _ _ rfl HO4.out _ _ _ rfl ho4 (outC_ones _) HL4.out (by omega) ?_)
                 intro v5 w5 o5 b5
                 go_wp2_with fail
                 go_roundw
                 case rel => exact ⟨j + 1, by omega, by simp, by rw [HSN.out, HK.out, if_pos trivial, List.map_append]; exact o5, cl4.trans b5⟩
                 case measure => simp [intOf]; omega
                ·
                 obtain ⟨eb, eo, rfl, heb, her2⟩ : ∃ b off, sa' = some ⟨b, off, none⟩ ∧ b < y2.heap.size ∧ ∀ W, blk W b = blk y2 b → W.rangeAt b (off + jx * 10) (entC l'[jx]) := ent_of HE2.out.elems hjx
                 obtain ⟨c, hc⟩ : ∃ y, l'[jx] = y := ⟨_, rfl⟩
                 rw [hc] at her2 hfn
                 obtain ⟨o10, ho10⟩ : ∃ y, eo + jx * 10 = y := ⟨_, rfl⟩
                 rw [ho10] at her2
                 have hpz0 : ¬ pz < 0 := by omega
                 have hpz0b := decide_eq_false hpz0
                 have HER2 := Lib.hid (fun W (hW : Below y2.heap.size y2 W) => (show W.cell? ⟨eb, o10 + 1, none⟩ = some (.int .i64 c.port) from her2 W (blk_below hW heb) 1 _ rfl))
                 have hjxI : (jx : Int) < (l'.length : Int) := by omega
                 cases hcp : (c.port == (j : Int)) with
                 | true =>
                  have HK := Lib.hid (HFJH.out true (by rw [hgd, ← HFP.out, hfn]; exact hcp))
                  clear hgd hfn hc her2 heb
                  subst hpe
                  go_wp2_with fail
                  (with_reducible refine (HMJ.out _ hjp).mono ?_)
                  rintro e y3 ⟨rfl, b3⟩
                  have z3 := b3.size
                  have rB3 := (row_below b3 (by omega)).trans rBl
                  have rX3 := (row_below b3 (by omega)).trans rXl
                  have g10 := HER2.out y3 (cl.trans (b3.mono cl.size))
                  have cD : y3.cell? ⟨w1.heap.size, 0, none⟩ = some (.int .u8 (db.toNat : Int)) := by
                   rw [cell_of_row' (by rw [rX3]; simp), rX3, List.getElem?_toArray, List.getElem?_append_left (by simp)]
                   simpa using hd0
                  have cl3 := cl.trans (b3.mono cl.size)
                  have D3 := Dl.trans (b3.mono Dl.size)
                  have hjp3 := hjp.below b3
                  have HO3 := Lib.hid (HOW.out.below b3)
                  clear rBl rXl
                  go_wp2_with fail
                  (with_reducible refine (HGJ.out _ hjp3).mono ?_)
                  rintro e y4 ⟨⟨uo, rfl, ho4⟩, b4⟩
                  rw [← HVV.out] at ho4
                  have z4 := b4.size
                  have HO4 := Lib.hid (HO3.out.below b4)
                  have HL4 := Lib.hid (show (((List.range j).flatMap F).map outC).length + ((printedS x.rs[j].p j v dst src ty body prio).map outC).length ≤ 10000 by
                   rw [List.length_map, List.length_map, ← HF.out]
                   have h1 := flat_range_len (relF_len s (hearL lim v src k s.st) k v dst src ty body prio) j
                   have h2 := printedS_len x.rs[j].p j v dst src ty body prio
                   omega)
                  have cl4 := cl3.trans (b4.mono cl3.size)
                  go_wp2_with (at_builtin; refine wpList_appendLs rfl rfl Tryz.underlying47 r22outInfo (by decide) (by decide) y2.heap.size _ _ rfl HO4.out _ _ _ rfl ho4 (outC_ones _) HL4.out (by omega) ?_)
                  intro v5 w5 o5 b5
                  go_wp2_with fail
                  go_roundw
                  case rel => exact ⟨j + 1, by omega, by simp, by rw [HSN.out, HK.out, if_pos trivial, List.map_append]; exact o5, cl4.trans b5⟩
                  case measure => simp [intOf]; omega
                 | false =>
                  have HK := Lib.hid (HFJH.out false (by rw [hgd, ← HFP.out, hfn]; exact hcp))
                  clear hgd hfn hc her2 heb
                  subst hpe
                  go_wp2_with fail
                  (with_reducible refine (HMJ.out _ hjp).mono ?_)
                  rintro e y3 ⟨rfl, b3⟩
                  have z3 := b3.size
                  have rB3 := (row_below b3 (by omega)).trans rBl
                  have rX3 := (row_below b3 (by omega)).trans rXl
                  have g10 := HER2.out y3 (cl.trans (b3.mono cl.size))
                  have cD : y3.cell? ⟨w1.heap.size, 0, none⟩ = some (.int .u8 (db.toNat : Int)) := by
                   rw [cell_of_row' (by rw [rX3]; simp), rX3, List.getElem?_toArray, List.getElem?_append_left (by simp)]
                   simpa using hd0
                  clear rBl rXl
                  go_wp2_with fail
                  go_roundw
                  case rel => exact ⟨j + 1, by omega, by simp, by rw [HSN.out, HK.out]; simpa using HOW.out.below b3, cl.trans (b3.mono cl.size)⟩
                  case measure => simp [intOf]; omega
             ·
              obtain rfl : j = x.rs.length := by omega
              have hjI : ¬ (x.rs.length : Int) < (x.rs.length : Int) := by omega
              clear hown
              go_wp2_with fail
              have hfin := row_setRow_same (w := wr) (g := w.heap.size + 1) (c := #[.slice (some ⟨pb, po, none⟩) x.rs.length pcap, .int .i64 x.ageing, .slice sa' l'.length sc', .slice ba' m2.length bc', .int .i64 x.c0, .int .i64 x.c1, .int .i64 x.c2, .int .i64 (x.c3 + 1), .int .i64 x.c4]) (by rw [rRl]; simp) (by rw [rRl]; simp)
              refine bodyPost_ret (results_3 rfl (resOk_row rfl ?_) resOk_tmp resOk_tmp) rfl ?_
              ·
               rw [hfin]; rfl
              have bf := Below.setRow (g := w.heap.size + 1) Dl (Nat.le_succ _) (#[.slice (some ⟨pb, po, none⟩) x.rs.length pcap, .int .i64 x.ageing, .slice sa' l'.length sc', .slice ba' m2.length bc', .int .i64 x.c0, .int .i64 x.c1, .int .i64 x.c2, .int .i64 (x.c3 + 1), .int .i64 x.c4])
              have hbs : BelowS wr.heap.size [w.heap.size, w.heap.size + 1] wr (wr.setRow (w.heap.size + 1) #[.slice (some ⟨pb, po, none⟩) x.rs.length pcap, .int .i64 x.ageing, .slice sa' l'.length sc', .slice ba' m2.length bc', .int .i64 x.c0, .int .i64 x.c1, .int .i64 x.c2, .int .i64 (x.c3 + 1), .int .i64 x.c4]) := BelowS.set wr _ (by simp)
              refine ⟨⟨⟨(some ⟨pb, po, none⟩), pcap, sa', sc', ba', bc'⟩, rfl, { x with st := l', bi := m2, c3 := x.c3 + 1 }, rfl, _, by rw [hfin, HC.out]; rfl, ⟨HRF.out.ports.below bf, ((HE2.out.below cl).kept hbs).elems, ((HB2.out.below cl).kept hbs).elems⟩, ?_, ?_⟩, bf⟩
              ·
               rw [HC.out]
               exact { HRL.out with st := HPM.out, bi := rfl, c3 := by show _ + 1 = _ + 1; rw [HRL.out.c3] }
              ·
               rw [HC.out]
               unfold relayedS
               rw [HF.out, HRL.out.len]
               exact (HOW.out.other (by omega) _).lower (by omega)
        | some pr =>
         obtain ⟨ipq, ans⟩ := pr
         obtain ⟨hrq, hrans, hal⟩ := HTK.out.yes ipq ans hask
         have HQ := Lib.hid hrq
         have HAS := Lib.hid hask
         have HRA := Lib.hid hrans
         have HAL := Lib.hid hal
         clear hrq hask hrans hal
         unfold RAskC frameV at HQ
         (with_reducible refine (HQ.out _).mono ?_)
         rintro e w7 ⟨rfl, b7⟩
         have z7 := b7.size
         have rB7 := (row_below b7 (by omega)).trans rB6
         have rR7 := (row_below b7 (by omega)).trans rR6
         have rX7 := (row_below b7 (by omega)).trans rX6
         have D7 := D6.trans (b7.mono D6.size)
         have HB7 := Lib.hid (HB6.out.below b7)
         have HE7 := Lib.hid (HE6.out.below b7)
         clear b7 rB6 rR6 rX6 D6 HB6 HE6
         go_wp2_with fail
         go_loopw [15] (fun i wr => ∃ j : Nat, j ≤ m2.length ∧ i = .int .i64 j ∧ (∀ (q : Nat) (hq : q < m2.length), q < j → m2[q].is v ipq = false) ∧ Below w7.heap.size w7 wr) (fun i _ => m2.length - (intOf i).toNat)
         case atStart => exact ⟨0, by omega, rfl, fun q hq h => by omega, Below.refl _ _⟩
         case round =>
          obtain ⟨j, hj, rfl, hno, cr⟩ := hrel
          have zr := cr.size
          have rBr := (row_below cr (by omega)).trans rB7
          have rRr := (row_below cr (by omega)).trans rR7
          have rXr := (row_below cr (by omega)).trans rX7
          have Dr := D7.trans (cr.mono D7.size)
          have HBR := Lib.hid (HB7.out.below cr)
          have HER := Lib.hid (HE7.out.below cr)
          clear rB7 rR7 rX7 D7
          have HNO := Lib.hid hno
          clear hno
          by_cases hlt : j < m2.length
          ·
           have hjI : (j : Int) < (m2.length : Int) := by omega
           obtain ⟨bb, bo, rfl, hbb, hbr⟩ : ∃ b off, ba' = some ⟨b, off, none⟩ ∧ b < wr.heap.size ∧ ∀ W, blk W b = blk wr b → W.rangeAt b (off + j * 9) (bindC m2[j]) := elem_of HBR.out.elems hlt
           obtain ⟨c, hc⟩ : ∃ y, m2[j] = y := ⟨_, rfl⟩
           rw [hc] at hbr
           obtain ⟨o9, ho9⟩ : ∃ y, bo + j * 9 = y := ⟨_, rfl⟩
           rw [ho9] at hbr
           have g0 : wr.cell? ⟨bb, o9, none⟩ = some (.int .i64 c.v) := hbr wr rfl 0 _ rfl
           have g1 : wr.cell? ⟨bb, o9 + 1, none⟩ = some (.string ⟨c.ip.toArray⟩) := hbr wr rfl 1 _ rfl
           have HBL := Lib.hid hbr
           have HCJ := Lib.hid hc
           clear hbr hc
           cases e1 : (c.v == v) with
           | false =>
            have HK := Lib.hid (show m2[j].is v ipq = false by rw [HCJ.out]; unfold HB.is; rw [Bool.and_eq_false_iff]; left; rw [beq_eq_false_iff_ne] at e1 ⊢; exact Ne.symm e1)
            rw [HVV.out] at e1
            go_wp2_with fail
            go_roundw
            case rel => exact ⟨j + 1, by omega, by simp, step_no HNO.out HK.out, cr⟩
            case measure => simp [intOf]; omega
           | true =>
           cases e2 : (c.ip == ipq) with
           | false =>
            have HK := Lib.hid (show m2[j].is v ipq = false by rw [HCJ.out]; unfold HB.is; rw [Bool.and_eq_false_iff]; right; rw [beq_eq_false_iff_ne] at e2 ⊢; exact Ne.symm e2)
            rw [HVV.out] at e1
            go_wp2_with fail
            go_roundw
            case rel => exact ⟨j + 1, by omega, by simp, step_no HNO.out HK.out, cr⟩
            case measure => simp [intOf]; omega
           | true =>
            have HFD := Lib.hid (show findH v ipq m2 = some c by rw [← HCJ.out]; exact find_first hlt HNO.out (by rw [HCJ.out]; unfold HB.is; rw [beq_iff_eq.1 e1, beq_iff_eq.1 e2]; simp))
            rw [HVV.out] at e1
            as_aux_lemma =>
             have HN := Lib.hid (show askS v t m2 = some (c, ans) by unfold askS; rw [HAS.out]; simp only [HFD.out]; rfl)
             have HC := Lib.hid (show comeS s k l t = ({ s with st := hearL lim v src k s.st, bi := m2, c4 := s.c4 + 1 }, printedS x.rs[k].p k v src c.mac ty (ans c.mac) prio, 0) by rw [HC2.out, ← HRL.out.bi, HM2.out, HN.out, HR0.out])
             have hi1 : wrap64 (x.c4 + 1) = x.c4 + 1 := by unfold wrap64; omega
             have hi2 : IntKind.i64.wrap (x.c4 + 1) = x.c4 + 1 := by rw [wraps_i64 _ (by omega) (by omega)]
             obtain ⟨y1, hy1⟩ : ∃ y, wr.setRow w.heap.size #[.slice (some ⟨pb, po, none⟩) x.rs.length pcap, .int .i64 x.ageing, .slice sa' l'.length sc', .slice (some ⟨bb, bo, none⟩) m2.length bc', .int .i64 x.c0, .int .i64 x.c1, .int .i64 x.c2, .int .i64 x.c3, .int .i64 (x.c4 + 1)] = y := ⟨_, rfl⟩
             have rB1 : row y1 w.heap.size = #[.slice (some ⟨pb, po, none⟩) x.rs.length pcap, .int .i64 x.ageing, .slice sa' l'.length sc', .slice (some ⟨bb, bo, none⟩) m2.length bc', .int .i64 x.c0, .int .i64 x.c1, .int .i64 x.c2, .int .i64 x.c3, .int .i64 (x.c4 + 1)] := by rw [← hy1]; exact row_setRow_same (by rw [rBr]; simp) (by rw [rBr]; rfl)
             have rR1 : row y1 (w.heap.size + 1) = (Value.slice none 0 0 :: Value.int .i64 0 :: (zeros 2 (Value.slice none 0 0) ++ zeros 5 (Value.int .i64 0))).toArray := by rw [← hy1, row_setRow_other _ _ _ (by omega)]; exact rRr
             have rX1 : row y1 w1.heap.size = (u8v dst ++ (u8v src ++ [Value.int .i64 ty, .string ⟨body.toArray⟩, .int .i64 vl, .int .i64 prio])).toArray := by rw [← hy1, row_setRow_other _ _ _ (by omega)]; exact rXr
             have zy1 : y1.heap.size = wr.heap.size := by rw [← hy1, setRow_size]
             have cy1 : Below w.heap.size w y1 := by rw [← hy1]; exact Below.setRow Dr (Nat.le_refl _) _
             have hsy : BelowS wr.heap.size [w.heap.size, w.heap.size + 1] wr y1 := by rw [← hy1]; exact BelowS.set wr _ (by simp)
             have HBY := Lib.hid (HBR.out.kept hsy)
             have HEY := Lib.hid (HER.out.kept hsy)
             obtain ⟨bb', bo', e', hbb2, hbn2, hbr2⟩ := HBY.out.2 j (bindC m2[j]) (by rw [List.getElem?_map, List.getElem?_eq_getElem hlt]; rfl)
             simp only [Option.some.injEq, Addr.mk.injEq, and_true] at e'
             obtain ⟨rfl, rfl⟩ := e'
             rw [HCJ.out, ho9] at hbr2
             have gm : ∀ W, OkBlk y1 bb W → (loadS 65 (.pointer (some ⟨bb, o9 + 2, none⟩))).run Tryz.prog W = .ok (.agg (u8v c.mac).toArray) W := fun W hW => run_loadS_at (rangeAt_part (l := [Value.int .i64 c.v, Value.string ⟨c.ip.toArray⟩]) (m := u8v c.mac) (r := [Value.int .i64 c.age]) (hbr2 W hW.1) rfl) (by simp)
             obtain ⟨an, han⟩ : ∃ y, ans c.mac = y := ⟨_, rfl⟩
             have HR1 := Lib.hid (fun w => HRA.out c.mac w)
             unfold RAnsC frameV at HR1
             rw [han] at HR1 HC
             have HGS := Lib.hid (fun w (h : RPortsAt w (some ⟨pb, po, none⟩) x.rs) => r22goes_any ⟨some ⟨pb, po, none⟩, pcap, sa', sc', some ⟨bb, bo, none⟩, bc'⟩ { x with st := l', bi := m2, c4 := x.c4 + 1 } k v src c.mac ty an prio w h hk (by show x.rs.length ≤ 1000; omega) (by have := HAL.out c.mac; rw [han] at this; omega))
             unfold refV frameV at HGS
             dsimp only at HGS
             rw [HVV.out] at HGS
             have hG : GrowP (OkBlk y1 bb) := grow_ok y1 bb
             have hok1 : OkBlk y1 bb y1 := ⟨rfl, hbb2⟩
             have hlo : w1.heap.size + 1 ≤ y1.heap.size := by omega
             clear hbr2 han hsy zy1
             go_wp2_with fail
             (try rw [hy1])
             (try clear hy1)
             refine wp_region_beginX [(w.heap.size, #[.slice (some ⟨pb, po, none⟩) x.rs.length pcap, .int .i64 x.ageing, .slice sa' l'.length sc', .slice (some ⟨bb, bo, none⟩) m2.length bc', .int .i64 x.c0, .int .i64 x.c1, .int .i64 x.c2, .int .i64 x.c3, .int .i64 (x.c4 + 1)]), (w1.heap.size, (u8v dst ++ (u8v src ++ [Value.int .i64 ty, .string ⟨body.toArray⟩, .int .i64 vl, .int .i64 prio])).toArray)] (OkBlk y1 bb) hG rfl (by simp only [Rws]; (repeat (first | exact trivial | refine ⟨(by first | assumption | (simp [go_sem, *]; done)), (by first | omega | (simp; done) | (simp; omega)), ?_⟩))) (hok1) (fun hS => ?_)
             refine sp 0 hG hS ?_
             refine sp 1 hG hS ?_
             refine sp 2 hG hS ?_
             refine sp 3 hG hS ?_
             refine sp 4 hG hS ?_
             refine sp 5 hG hS ?_
             refine sp 6 hG hS ?_
             refine sp 7 hG hS ?_
             refine sp 8 hG hS ?_
             refine sp 9 hG hS ?_
             refine sp 10 hG hS ?_
             refine sp 11 hG hS ?_
             refine sp 13 hG hS ?_
             refine sp 14 hG hS ?_
             refine sc 12 (v := ?_) hG hS ?_ ?_
             rotate_left
             ·
              intro w' hS'
              obtain ⟨hS', hX'⟩ := hS'
              simp only [Rws] at hS'
              go_simp
              with_reducible refine (HR1.out _).mono ?_
              rintro e w'' ⟨rfl, hb⟩
              exact ⟨_, rfl, by rfl, hb⟩
             refine wpAnyR_op1 15 (by kernel_rfl) (fun u3 hu3 => ?_)
             refine wpOp_step rfl (fun K hK => ?_)
             clear hS
             go_simp
             replace hu3 : Below y1.heap.size y1 u3 := below_step (Below.drew (Below.refl _ _)) hu3
             have zu3 := hu3.size
             have c3 := cy1.trans (hu3.mono cy1.size)
             (with_reducible refine (HGS.out _ (HRF.out.ports.below c3)).mono ?_)
             rintro e u4 ⟨⟨uo, rfl, ho4⟩, b34⟩
             have zu4 := b34.size
             have b14 : Below y1.heap.size y1 u4 := hu3.trans (b34.mono zu3)
             have rB4 := (row_below b14 (by omega)).trans rB1
             have rX4 := (row_below b14 (by omega)).trans rX1
             have rR4 := (row_below b14 (by omega)).trans rR1
             have hok4 : OkBlk y1 bb u4 := hG _ _ hok1 b14
             refine hK _ _ ⟨⟨⟨rB4, by omega, rX4, by omega, trivial⟩, hok4⟩, ?_⟩
             clear hK K
             (try simp only [Act.put, List.setIfInBounds_toArray, List.set_cons_zero, List.set_cons_succ])
             refine wpAnyR_op1 16 (by kernel_rfl) (fun u5 hu5 => ?_)
             refine wpOp_step rfl (fun K hK => ?_)
             have zu5 := hu5.size
             have b15 : Below y1.heap.size y1 u5 := b14.trans (hu5.mono b14.size)
             have rR5 := (row_below hu5 (by omega)).trans rR4
             have rB5 := (row_below hu5 (by omega)).trans rB4
             have rX5 := (row_below hu5 (by omega)).trans rX4
             go_simp
             have b16 : Below w.heap.size w (u5.setRow (w.heap.size + 1) #[.slice (some ⟨pb, po, none⟩) x.rs.length pcap, .int .i64 x.ageing, .slice sa' l'.length sc', .slice (some ⟨bb, bo, none⟩) m2.length bc', .int .i64 x.c0, .int .i64 x.c1, .int .i64 x.c2, .int .i64 x.c3, .int .i64 (x.c4 + 1)]) := Below.setRow (cy1.trans (b15.mono cy1.size)) (Nat.le_succ _) _
             have rB6 := (row_setRow_other (w := u5) (w.heap.size + 1) w.heap.size #[.slice (some ⟨pb, po, none⟩) x.rs.length pcap, .int .i64 x.ageing, .slice sa' l'.length sc', .slice (some ⟨bb, bo, none⟩) m2.length bc', .int .i64 x.c0, .int .i64 x.c1, .int .i64 x.c2, .int .i64 x.c3, .int .i64 (x.c4 + 1)] (show w.heap.size ≠ w.heap.size + 1 by omega)).trans rB5
             have rX6 := (row_setRow_other (w := u5) (w.heap.size + 1) w1.heap.size #[.slice (some ⟨pb, po, none⟩) x.rs.length pcap, .int .i64 x.ageing, .slice sa' l'.length sc', .slice (some ⟨bb, bo, none⟩) m2.length bc', .int .i64 x.c0, .int .i64 x.c1, .int .i64 x.c2, .int .i64 x.c3, .int .i64 (x.c4 + 1)] (show w1.heap.size ≠ w.heap.size + 1 by omega)).trans rX5
             have rR6 := row_setRow_same (w := u5) (g := w.heap.size + 1) (c := #[.slice (some ⟨pb, po, none⟩) x.rs.length pcap, .int .i64 x.ageing, .slice sa' l'.length sc', .slice (some ⟨bb, bo, none⟩) m2.length bc', .int .i64 x.c0, .int .i64 x.c1, .int .i64 x.c2, .int .i64 x.c3, .int .i64 (x.c4 + 1)]) (by rw [rR5]; simp) (by rw [rR5]; simp)
             have hs6 : BelowS u5.heap.size [w.heap.size, w.heap.size + 1] u5 (u5.setRow (w.heap.size + 1) #[.slice (some ⟨pb, po, none⟩) x.rs.length pcap, .int .i64 x.ageing, .slice sa' l'.length sc', .slice (some ⟨bb, bo, none⟩) m2.length bc', .int .i64 x.c0, .int .i64 x.c1, .int .i64 x.c2, .int .i64 x.c3, .int .i64 (x.c4 + 1)]) := BelowS.set u5 _ (by simp)
             have HB6 := Lib.hid ((HBY.out.below b15).kept hs6)
             have HE6 := Lib.hid ((HEY.out.below b15).kept hs6)
             have HO6 := Lib.hid (((ho4.below hu5).lower (B' := y1.heap.size) (by omega)).other (X := w.heap.size + 1) (by omega) #[.slice (some ⟨pb, po, none⟩) x.rs.length pcap, .int .i64 x.ageing, .slice sa' l'.length sc', .slice (some ⟨bb, bo, none⟩) m2.length bc', .int .i64 x.c0, .int .i64 x.c1, .int .i64 x.c2, .int .i64 x.c3, .int .i64 (x.c4 + 1)])
             obtain ⟨u6, hu6⟩ : ∃ y, u5.setRow (w.heap.size + 1) #[.slice (some ⟨pb, po, none⟩) x.rs.length pcap, .int .i64 x.ageing, .slice sa' l'.length sc', .slice (some ⟨bb, bo, none⟩) m2.length bc', .int .i64 x.c0, .int .i64 x.c1, .int .i64 x.c2, .int .i64 x.c3, .int .i64 (x.c4 + 1)] = y := ⟨_, rfl⟩
             have zu6 : u6.heap.size = u5.heap.size := by rw [← hu6, setRow_size]
             rw [hu6] at rB6 rX6 rR6 HB6 HE6 HO6 b16
             (try rw [hu6])
             have hok5 : OkBlk y1 bb u5 := hG _ _ hok1 b15
             have hok6 : OkBlk y1 bb u6 := ⟨by rw [← hu6]; exact (setRow_block_other _ _ _ (fun e => hbn2 (by rw [e]; simp))).trans hok5.1, by rw [zu6]; exact hok5.2⟩
             have hS : XS [(w.heap.size, #[.slice (some ⟨pb, po, none⟩) x.rs.length pcap, .int .i64 x.ageing, .slice sa' l'.length sc', .slice (some ⟨bb, bo, none⟩) m2.length bc', .int .i64 x.c0, .int .i64 x.c1, .int .i64 x.c2, .int .i64 x.c3, .int .i64 (x.c4 + 1)]), (w1.heap.size, (u8v dst ++ (u8v src ++ [Value.int .i64 ty, .string ⟨body.toArray⟩, .int .i64 vl, .int .i64 prio])).toArray)] (OkBlk y1 bb) u6 := ⟨⟨rB6, by omega, rX6, by omega, trivial⟩, hok6⟩
             refine hK _ _ ⟨hS, ?_⟩
             clear hK K
             (try simp only [Act.put, List.setIfInBounds_toArray, List.set_cons_zero, List.set_cons_succ])
             refine sp 17 hG hS ?_
             refine sp 18 hG hS ?_
             refine wpAnyR_done (by kernel_rfl) (fun w7 bw7 => ?_) _
             have rR7 := (row_below bw7 (by omega)).trans rR6
             have bf := b16.trans (bw7.mono b16.size)
             clear hS hG gm hok1 hok4 hok5 hok6
             go_wp2_with fail
             refine bodyPost_ret (results_3 rfl (resOk_row rfl ?_) resOk_tmp resOk_tmp) rfl ?_
             ·
              rw [rR7]; rfl
             refine ⟨⟨⟨(some ⟨pb, po, none⟩), pcap, sa', sc', some ⟨bb, bo, none⟩, bc'⟩, rfl, { x with st := l', bi := m2, c4 := x.c4 + 1 }, rfl, _, by rw [rR7, HC.out]; rfl, ⟨HRF.out.ports.below bf, (HE6.out.below bw7).elems, (HB6.out.below bw7).elems⟩, ?_, ?_⟩, bf⟩
             ·
              rw [HC.out]
              exact { HRL.out with st := HPM.out, bi := rfl, c4 := by show _ + 1 = _ + 1; rw [HRL.out.c4] }
             ·
              rw [HC.out, HVV.out]
              exact (HO6.out.below bw7).lower (by omega)
          ·
           obtain rfl : j = m2.length := by omega
           have hjI : ¬ (m2.length : Int) < (m2.length : Int) := by omega
           have HN := Lib.hid (show askS v t m2 = none by unfold askS; rw [HAS.out]; simp only [find_none (fun i hi => HNO.out i hi hi)]; rfl)
           as_aux_lemma =>
            have HC := Lib.hid (show comeS s k l t = ({ s with st := hearL lim v src k s.st, bi := m2, c3 := s.c3 + 1 }, relayedS s (hearL lim v src k s.st) k v dst src ty body prio, 0) by rw [HC2.out, ← HRL.out.bi, HM2.out, HN.out])
            have hi1 : wrap64 (x.c3 + 1) = x.c3 + 1 := by unfold wrap64; omega
            have hi2 : IntKind.i64.wrap (x.c3 + 1) = x.c3 + 1 := by rw [wraps_i64 _ (by omega) (by omega)]
            obtain ⟨y1, hy1⟩ : ∃ y, wr.setRow w.heap.size #[.slice (some ⟨pb, po, none⟩) x.rs.length pcap, .int .i64 x.ageing, .slice sa' l'.length sc', .slice ba' m2.length bc', .int .i64 x.c0, .int .i64 x.c1, .int .i64 x.c2, .int .i64 (x.c3 + 1), .int .i64 x.c4] = y := ⟨_, rfl⟩
            have rB1 : row y1 w.heap.size = #[.slice (some ⟨pb, po, none⟩) x.rs.length pcap, .int .i64 x.ageing, .slice sa' l'.length sc', .slice ba' m2.length bc', .int .i64 x.c0, .int .i64 x.c1, .int .i64 x.c2, .int .i64 (x.c3 + 1), .int .i64 x.c4] := by rw [← hy1]; exact row_setRow_same (by rw [rBr]; simp) (by rw [rBr]; rfl)
            have rR1 : row y1 (w.heap.size + 1) = (Value.slice none 0 0 :: Value.int .i64 0 :: (zeros 2 (Value.slice none 0 0) ++ zeros 5 (Value.int .i64 0))).toArray := by rw [← hy1, row_setRow_other _ _ _ (by omega)]; exact rRr
            have rX1 : row y1 w1.heap.size = (u8v dst ++ (u8v src ++ [Value.int .i64 ty, .string ⟨body.toArray⟩, .int .i64 vl, .int .i64 prio])).toArray := by rw [← hy1, row_setRow_other _ _ _ (by omega)]; exact rXr
            have zy1 : y1.heap.size = wr.heap.size := by rw [← hy1, setRow_size]
            have cy1 : Below w.heap.size w y1 := by rw [← hy1]; exact Below.setRow Dr (Nat.le_refl _) _
            have hsy : BelowS wr.heap.size [w.heap.size, w.heap.size + 1] wr y1 := by rw [← hy1]; exact BelowS.set wr _ (by simp)
            have HBY := Lib.hid (HBR.out.kept hsy)
            have HEY := Lib.hid (HER.out.kept hsy)
            have HLL := Lib.hid (show l'.length ≤ 1000 by rw [HPM.out.length_eq]; have := @lenL_hear lim v src k s.st; have := HG.out.stn; omega)
            have HFN := Lib.hid (fun w (h : ElemsAt w sa' 10 (l'.map entC)) => r20Find_any v dst l' sa' sc' w h HLL.out)
            have HFP := Lib.hid (find_perm (v := v) (mac := dst) (dist_perm (distL_hear HG.out.std) HPM.out.symm) HPM.out)
            obtain ⟨pz, hpz⟩ : ∃ y, posI v dst l' = y := ⟨_, rfl⟩
            have HPZ := Lib.hid (pos_cases v dst l')
            rw [hpz] at HFN HPZ
            rw [HVV.out] at HFN
            have HRP : RPortsAt y1 (some ⟨pb, po, none⟩) x.rs := HRF.out.ports.below cy1
            have HRPH := Lib.hid HRP
            obtain ⟨F, hF⟩ : ∃ f, relF s (hearL lim v src k s.st) k v dst src ty body prio = f := ⟨_, rfl⟩
            have HF := Lib.hid hF
            have HMY := Lib.hid (fun (to : Nat) (ht : to < x.rs.length) w (h : RPortsAt w (some ⟨pb, po, none⟩) x.rs) => r22may_any ⟨some ⟨pb, po, none⟩, pcap, sa', sc', ba', bc'⟩ { x with st := l', bi := m2, c3 := x.c3 + 1 } k to v w h hk ht (by show x.rs.length ≤ 1000; omega))
            have HGS := Lib.hid (fun (to : Nat) (ht : to < x.rs.length) w (h : RPortsAt w (some ⟨pb, po, none⟩) x.rs) => r22goes_any ⟨some ⟨pb, po, none⟩, pcap, sa', sc', ba', bc'⟩ { x with st := l', bi := m2, c3 := x.c3 + 1 } to v dst src ty body prio w h ht (by show x.rs.length ≤ 1000; omega) (by have := (ethParse_prio HOK.out).2.2; dsimp only at this; omega))
            unfold refV at HMY HGS
            unfold frameV at HGS
            dsimp only at HMY HGS
            obtain ⟨db, hdb⟩ : ∃ y, dst[0] = y := ⟨_, rfl⟩
            have hd0 : (u8v dst)[0]? = some (.int .u8 (db.toNat : Int)) := by rw [← hdb]; simp [u8v, u8s]
            have HGR3 := Lib.hid (grp_rem (mac := dst) (b := grp dst) rfl)
            rw [hdb] at HGR3
            clear hpz hF hsy HRP hdb
            have hey := HEY.out.elems
            go_wp2_with fail
            (try rw [hy1])
            (try clear hy1)
            (with_reducible refine (HFN.out _ hey).mono ?_)
            rintro e y2 ⟨rfl, by2⟩
            have zy2 := by2.size
            have rB2 := (row_below by2 (by omega)).trans rB1
            have rR2 := (row_below by2 (by omega)).trans rR1
            have rX2 := (row_below by2 (by omega)).trans rX1
            have cy2 := cy1.trans (by2.mono cy1.size)
            have HB2 := Lib.hid (HBY.out.below by2)
            have HE2 := Lib.hid (HEY.out.below by2)
            have hlo : w1.heap.size + 1 ≤ y2.heap.size := by omega
            clear rB1 rR1 rX1 by2 hey rBr rRr rXr Dr zy1 zy2 cr zr
            go_wp2_with fail
            go_loopw [17, 18] (fun u i wr => ∃ j : Nat, j ≤ x.rs.length ∧ i = .int .i64 j ∧ OwnL wr y2.heap.size 52 2 u (((List.range j).flatMap F).map outC) ∧ Below y2.heap.size y2 wr) (fun _ i _ => x.rs.length - (intOf i).toNat)
            case atStart => exact ⟨0, by omega, rfl, OwnL.nil _ _ _ _, Below.refl _ _⟩
            case round =>
             obtain ⟨j, hj, rfl, hown, cl⟩ := hrel
             have zl := cl.size
             have rBl := (row_below cl (by omega)).trans rB2
             have rRl := (row_below cl (by omega)).trans rR2
             have rXl := (row_below cl (by omega)).trans rX2
             have Dl := cy2.trans (cl.mono cy2.size)
             have HOW := Lib.hid hown
             by_cases hlt : j < x.rs.length
             ·
              have hjI : (j : Int) < (x.rs.length : Int) := by omega
              have hjp : RPortsAt wr (some ⟨pb, po, none⟩) x.rs := HRF.out.ports.below Dl
              have HMJ := Lib.hid (HMY.out j hlt)
              have HGJ := Lib.hid (HGS.out j hlt)
              obtain ⟨mr, hmr2⟩ : ∃ y, mayR x.rs[k] x.rs[j] k j v = y := ⟨_, rfl⟩
              rw [hmr2] at HMJ
              rw [HVV.out] at HMJ HGJ
              have HMR := Lib.hid hmr2
              have HSN := Lib.hid (flat_snoc F j)
              have HFJ := fun b (h : (mr && (grp dst || atPort (findL v dst (hearL lim v src k s.st)) j)) = b) => (show F j = if b then printedS x.rs[j].p j v dst src ty body prio else [] by rw [← HF.out]; exact rel_eq HRL.out hk hlt v _ dst src ty body prio (by rw [HMR.out]; exact h))
              have HFJH := Lib.hid HFJ
              clear hown hmr2 HFJ
              cases mr with
              | false =>
               have HK := Lib.hid (HFJH.out false rfl)
               go_wp2_with fail
               (with_reducible refine (HMJ.out _ hjp).mono ?_)
               rintro e y3 ⟨rfl, b3⟩
               have z3 := b3.size
               go_wp2_with fail
               go_roundw
               case rel => exact ⟨j + 1, by omega, by simp, by rw [HSN.out, HK.out]; simpa using HOW.out.below b3, cl.trans (b3.mono cl.size)⟩
               case measure => simp [intOf]; omega
              | true =>
               cases hgd : grp dst with
               | true =>
                have hm := (HGR3.out).2
                have hm2 := (HGR3.out).1
                rw [hgd, if_pos rfl] at hm hm2
                have HK := Lib.hid (HFJH.out true (by rw [hgd]; rfl))
                clear hgd
                go_wp2_with fail
                (with_reducible refine (HMJ.out _ hjp).mono ?_)
                rintro e y3 ⟨rfl, b3⟩
                have z3 := b3.size
                have rB3 := (row_below b3 (by omega)).trans rBl
                have rX3 := (row_below b3 (by omega)).trans rXl
                have cD : y3.cell? ⟨w1.heap.size, 0, none⟩ = some (.int .u8 (db.toNat : Int)) := by
                 rw [cell_of_row' (by rw [rX3]; simp), rX3, List.getElem?_toArray, List.getElem?_append_left (by simp)]
                 simpa using hd0
                have cl3 := cl.trans (b3.mono cl.size)
                have D3 := Dl.trans (b3.mono Dl.size)
                have hjp3 := hjp.below b3
                have HO3 := Lib.hid (HOW.out.below b3)
                clear rBl rXl
                go_wp2_with fail
                (with_reducible refine (HGJ.out _ hjp3).mono ?_)
                rintro e y4 ⟨⟨uo, rfl, ho4⟩, b4⟩
                rw [← HVV.out] at ho4
                have z4 := b4.size
                have HO4 := Lib.hid (HO3.out.below b4)
                have HL4 := Lib.hid (show (((List.range j).flatMap F).map outC).length + ((printedS x.rs[j].p j v dst src ty body prio).map outC).length ≤ 10000 by
                 rw [List.length_map, List.length_map, ← HF.out]
                 have h1 := flat_range_len (relF_len s (hearL lim v src k s.st) k v dst src ty body prio) j
                 have h2 := printedS_len x.rs[j].p j v dst src ty body prio
                 omega)
                have cl4 := cl3.trans (b4.mono cl3.size)
                go_wp2_with (at_builtin; refine wpList_appendLs rfl rfl Tryz.underlying47 r22outInfo (by decide) (by decide) y2.heap.size _ _ rfl HO4.out _ _ _ rfl ho4 (outC_ones _) HL4.out (by omega) ?_)
                intro v5 w5 o5 b5
                go_wp2_with fail
                go_roundw
                case rel => exact ⟨j + 1, by omega, by simp, by rw [HSN.out, HK.out, if_pos trivial, List.map_append]; exact o5, cl4.trans b5⟩
                case measure => simp [intOf]; omega
               | false =>
                have hm := (HGR3.out).2
                have hm2 := (HGR3.out).1
                rw [hgd, if_neg (by decide)] at hm hm2
                rcases HPZ.out with ⟨hp0, hfn⟩ | ⟨jx, hjx, hpe, hfn⟩
                ·
                 have HK := Lib.hid (HFJH.out true (by rw [hgd, ← HFP.out, hfn]; rfl))
                 have hp0b := decide_eq_true hp0
                 clear hgd hfn
                 go_wp2_with fail
                 (with_reducible refine (HMJ.out _ hjp).mono ?_)
                 rintro e y3 ⟨rfl, b3⟩
                 have z3 := b3.size
                 have rB3 := (row_below b3 (by omega)).trans rBl
                 have rX3 := (row_below b3 (by omega)).trans rXl
                 have cD : y3.cell? ⟨w1.heap.size, 0, none⟩ = some (.int .u8 (db.toNat : Int)) := by
                  rw [cell_of_row' (by rw [rX3]; simp), rX3, List.getElem?_toArray, List.getElem?_append_left (by simp)]
                  simpa using hd0
                 have cl3 := cl.trans (b3.mono cl.size)
                 have D3 := Dl.trans (b3.mono Dl.size)
                 have hjp3 := hjp.below b3
                 have HO3 := Lib.hid (HOW.out.below b3)
                 clear rBl rXl
                 go_wp2_with fail
                 (with_reducible refine (HGJ.out _ hjp3).mono ?_)
                 rintro e y4 ⟨⟨uo, rfl, ho4⟩, b4⟩
                 rw [← HVV.out] at ho4
                 have z4 := b4.size
                 have HO4 := Lib.hid (HO3.out.below b4)
                 have HL4 := Lib.hid (show (((List.range j).flatMap F).map outC).length + ((printedS x.rs[j].p j v dst src ty body prio).map outC).length ≤ 10000 by
                  rw [List.length_map, List.length_map, ← HF.out]
                  have h1 := flat_range_len (relF_len s (hearL lim v src k s.st) k v dst src ty body prio) j
                  have h2 := printedS_len x.rs[j].p j v dst src ty body prio
                  omega)
                 have cl4 := cl3.trans (b4.mono cl3.size)
                 go_wp2_with (at_builtin; refine wpList_appendLs rfl rfl Tryz.underlying47 r22outInfo (by decide) (by decide) y2.heap.size _ _ rfl HO4.out _ _ _ rfl ho4 (outC_ones _) HL4.out (by omega) ?_)
                 intro v5 w5 o5 b5
                 go_wp2_with fail
                 go_roundw
                 case rel => exact ⟨j + 1, by omega, by simp, by rw [HSN.out, HK.out, if_pos trivial, List.map_append]; exact o5, cl4.trans b5⟩
                 case measure => simp [intOf]; omega
                ·
                 obtain ⟨eb, eo, rfl, heb, her2⟩ : ∃ b off, sa' = some ⟨b, off, none⟩ ∧ b < y2.heap.size ∧ ∀ W, blk W b = blk y2 b → W.rangeAt b (off + jx * 10) (entC l'[jx]) := ent_of HE2.out.elems hjx
                 obtain ⟨c, hc⟩ : ∃ y, l'[jx] = y := ⟨_, rfl⟩
                 rw [hc] at her2 hfn
                 obtain ⟨o10, ho10⟩ : ∃ y, eo + jx * 10 = y := ⟨_, rfl⟩
                 rw [ho10] at her2
                 have hpz0 : ¬ pz < 0 := by omega
                 have hpz0b := decide_eq_false hpz0
                 have HER2 := Lib.hid (fun W (hW : Below y2.heap.size y2 W) => (show W.cell? ⟨eb, o10 + 1, none⟩ = some (.int .i64 c.port) from her2 W (blk_below hW heb) 1 _ rfl))
                 have hjxI : (jx : Int) < (l'.length : Int) := by omega
                 cases hcp : (c.port == (j : Int)) with
                 | true =>
                  have HK := Lib.hid (HFJH.out true (by rw [hgd, ← HFP.out, hfn]; exact hcp))
                  clear hgd hfn hc her2 heb
                  subst hpe
                  go_wp2_with fail
                  (with_reducible refine (HMJ.out _ hjp).mono ?_)
                  rintro e y3 ⟨rfl, b3⟩
                  have z3 := b3.size
                  have rB3 := (row_below b3 (by omega)).trans rBl
                  have rX3 := (row_below b3 (by omega)).trans rXl
                  have g10 := HER2.out y3 (cl.trans (b3.mono cl.size))
                  have cD : y3.cell? ⟨w1.heap.size, 0, none⟩ = some (.int .u8 (db.toNat : Int)) := by
                   rw [cell_of_row' (by rw [rX3]; simp), rX3, List.getElem?_toArray, List.getElem?_append_left (by simp)]
                   simpa using hd0
                  have cl3 := cl.trans (b3.mono cl.size)
                  have D3 := Dl.trans (b3.mono Dl.size)
                  have hjp3 := hjp.below b3
                  have HO3 := Lib.hid (HOW.out.below b3)
                  clear rBl rXl
                  go_wp2_with fail
                  (with_reducible refine (HGJ.out _ hjp3).mono ?_)
                  rintro e y4 ⟨⟨uo, rfl, ho4⟩, b4⟩
                  rw [← HVV.out] at ho4
                  have z4 := b4.size
                  have HO4 := Lib.hid (HO3.out.below b4)
                  have HL4 := Lib.hid (show (((List.range j).flatMap F).map outC).length + ((printedS x.rs[j].p j v dst src ty body prio).map outC).length ≤ 10000 by
                   rw [List.length_map, List.length_map, ← HF.out]
                   have h1 := flat_range_len (relF_len s (hearL lim v src k s.st) k v dst src ty body prio) j
                   have h2 := printedS_len x.rs[j].p j v dst src ty body prio
                   omega)
                  have cl4 := cl3.trans (b4.mono cl3.size)
                  go_wp2_with (at_builtin; refine wpList_appendLs rfl rfl Tryz.underlying47 r22outInfo (by decide) (by decide) y2.heap.size _ _ rfl HO4.out _ _ _ rfl ho4 (outC_ones _) HL4.out (by omega) ?_)
                  intro v5 w5 o5 b5
                  go_wp2_with fail
                  go_roundw
                  case rel => exact ⟨j + 1, by omega, by simp, by rw [HSN.out, HK.out, if_pos trivial, List.map_append]; exact o5, cl4.trans b5⟩
                  case measure => simp [intOf]; omega
                 | false =>
                  have HK := Lib.hid (HFJH.out false (by rw [hgd, ← HFP.out, hfn]; exact hcp))
                  clear hgd hfn hc her2 heb
                  subst hpe
                  go_wp2_with fail
                  (with_reducible refine (HMJ.out _ hjp).mono ?_)
                  rintro e y3 ⟨rfl, b3⟩
                  have z3 := b3.size
                  have rB3 := (row_below b3 (by omega)).trans rBl
                  have rX3 := (row_below b3 (by omega)).trans rXl
                  have g10 := HER2.out y3 (cl.trans (b3.mono cl.size))
                  have cD : y3.cell? ⟨w1.heap.size, 0, none⟩ = some (.int .u8 (db.toNat : Int)) := by
                   rw [cell_of_row' (by rw [rX3]; simp), rX3, List.getElem?_toArray, List.getElem?_append_left (by simp)]
                   simpa using hd0
                  clear rBl rXl
                  go_wp2_with fail
                  go_roundw
                  case rel => exact ⟨j + 1, by omega, by simp, by rw [HSN.out, HK.out]; simpa using HOW.out.below b3, cl.trans (b3.mono cl.size)⟩
                  case measure => simp [intOf]; omega
             ·
              obtain rfl : j = x.rs.length := by omega
              have hjI : ¬ (x.rs.length : Int) < (x.rs.length : Int) := by omega
              clear hown
              go_wp2_with fail
              have hfin := row_setRow_same (w := wr) (g := w.heap.size + 1) (c := #[.slice (some ⟨pb, po, none⟩) x.rs.length pcap, .int .i64 x.ageing, .slice sa' l'.length sc', .slice ba' m2.length bc', .int .i64 x.c0, .int .i64 x.c1, .int .i64 x.c2, .int .i64 (x.c3 + 1), .int .i64 x.c4]) (by rw [rRl]; simp) (by rw [rRl]; simp)
              refine bodyPost_ret (results_3 rfl (resOk_row rfl ?_) resOk_tmp resOk_tmp) rfl ?_
              ·
               rw [hfin]; rfl
              have bf := Below.setRow (g := w.heap.size + 1) Dl (Nat.le_succ _) (#[.slice (some ⟨pb, po, none⟩) x.rs.length pcap, .int .i64 x.ageing, .slice sa' l'.length sc', .slice ba' m2.length bc', .int .i64 x.c0, .int .i64 x.c1, .int .i64 x.c2, .int .i64 (x.c3 + 1), .int .i64 x.c4])
              have hbs : BelowS wr.heap.size [w.heap.size, w.heap.size + 1] wr (wr.setRow (w.heap.size + 1) #[.slice (some ⟨pb, po, none⟩) x.rs.length pcap, .int .i64 x.ageing, .slice sa' l'.length sc', .slice ba' m2.length bc', .int .i64 x.c0, .int .i64 x.c1, .int .i64 x.c2, .int .i64 (x.c3 + 1), .int .i64 x.c4]) := BelowS.set wr _ (by simp)
              refine ⟨⟨⟨(some ⟨pb, po, none⟩), pcap, sa', sc', ba', bc'⟩, rfl, { x with st := l', bi := m2, c3 := x.c3 + 1 }, rfl, _, by rw [hfin, HC.out]; rfl, ⟨HRF.out.ports.below bf, ((HE2.out.below cl).kept hbs).elems, ((HB2.out.below cl).kept hbs).elems⟩, ?_, ?_⟩, bf⟩
              ·
               rw [HC.out]
               exact { HRL.out with st := HPM.out, bi := rfl, c3 := by show _ + 1 = _ + 1; rw [HRL.out.c3] }
              ·
               rw [HC.out]
               unfold relayedS
               rw [HF.out, HRL.out.len]
               exact (HOW.out.other (by omega) _).lower (by omega)
 ·
  obtain ⟨n, hn⟩ := HE.out her
  have HC := Lib.hid (come_err (s := s) (k := k) (t := t) hn)
  have herb : (er != 0) = true := bne_iff_ne.2 her
  go_wp2_with fail
  (try rw [hwc])
  (try clear hwc)
  have hi1 : wrap64 (x.c0 + 1) = x.c0 + 1 := by unfold wrap64; omega
  have hi2 : IntKind.i64.wrap (x.c0 + 1) = x.c0 + 1 := by rw [wraps_i64 _ (by omega) (by omega)]
  obtain ⟨y1, hy1⟩ : ∃ y, wc.setRow w.heap.size #[.slice (some ⟨pb, po, none⟩) x.rs.length pcap, .int .i64 x.ageing, .slice sa x.st.length scap, .slice ba x.bi.length bcap, .int .i64 (x.c0 + 1), .int .i64 x.c1, .int .i64 x.c2, .int .i64 x.c3, .int .i64 x.c4] = y := ⟨_, rfl⟩
  have rB1 : row y1 w.heap.size = #[.slice (some ⟨pb, po, none⟩) x.rs.length pcap, .int .i64 x.ageing, .slice sa x.st.length scap, .slice ba x.bi.length bcap, .int .i64 (x.c0 + 1), .int .i64 x.c1, .int .i64 x.c2, .int .i64 x.c3, .int .i64 x.c4] := by rw [← hy1]; exact row_setRow_same (by rw [rB]; simp) (by rw [rB]; rfl)
  have rR1 : row y1 (w.heap.size + 1) = (Value.slice none 0 0 :: Value.int .i64 0 :: (zeros 2 (Value.slice none 0 0) ++ zeros 5 (Value.int .i64 0))).toArray := by rw [← hy1, row_setRow_other _ _ _ (by omega)]; exact rR
  have zy1 : y1.heap.size = wc.heap.size := by rw [← hy1, setRow_size]
  have cy1 : Below w.heap.size w y1 := by rw [← hy1]; exact Below.setRow D (Nat.le_refl _) _
  go_wp2_with fail
  (try rw [hy1])
  (try clear hy1)
  go_wp2_with fail
  have hfin := row_setRow_same (w := y1) (g := w.heap.size + 1) (c := #[.slice (some ⟨pb, po, none⟩) x.rs.length pcap, .int .i64 x.ageing, .slice sa x.st.length scap, .slice ba x.bi.length bcap, .int .i64 (x.c0 + 1), .int .i64 x.c1, .int .i64 x.c2, .int .i64 x.c3, .int .i64 x.c4]) (by rw [rR1]; simp) (by rw [rR1]; simp)
  refine bodyPost_ret (results_3 rfl (resOk_row rfl ?_) resOk_tmp resOk_tmp) rfl ?_
  ·
   rw [hfin]; rfl
  have bf := Below.setRow (g := w.heap.size + 1) cy1 (Nat.le_succ _) (#[.slice (some ⟨pb, po, none⟩) x.rs.length pcap, .int .i64 x.ageing, .slice sa x.st.length scap, .slice ba x.bi.length bcap, .int .i64 (x.c0 + 1), .int .i64 x.c1, .int .i64 x.c2, .int .i64 x.c3, .int .i64 x.c4])
  refine ⟨⟨⟨(some ⟨pb, po, none⟩), pcap, sa, scap, ba, bcap⟩, rfl, { x with c0 := x.c0 + 1 }, rfl, _, by rw [hfin, HC.out]; rfl, ⟨HRF.out.ports.below bf, HRF.out.st.below bf, HRF.out.bi.below bf⟩, ?_, by rw [HC.out]; exact OwnL.nil _ _ _ _⟩, bf⟩
  rw [HC.out]
  exact { HRL.out with c0 := by show _ + 1 = _ + 1; rw [HRL.out.c0] }
end
section
open Go.RowKit Go.Shelf
theorem BelowS.sub {B : Nat} {S T : List Nat} {w w' : World} (h : BelowS B S w w') (hS : ∀ x ∈ S, x ∈ T) : BelowS B T w w' := ⟨h.os, h.tape, h.output, h.size, fun k hk hn => h.block k hk fun hm => hn (hS k hm)⟩
theorem talk_for2 (l : List UInt8) : ∃ t, (∀ d, ethParse l = .ok d → TalkC d.dst d.src d.ty d.body t) ∧ ∀ d, ethParse l = .ok d → TalkR d.dst d.src d.ty d.body t := by
 cases hp : ethParse l with
 | error e => exact ⟨⟨[], mac0, false, none⟩, (fun d hd => by cases hd), fun d hd => by cases hd⟩
 | ok d =>
  obtain ⟨t, ht, hr⟩ := talk_both d.dst d.src d.ty d.body (by have := (ethParse_prio hp).2.2; omega)
  exact ⟨t, (fun d' hd => by cases hd; exact ht), fun d' hd => by cases hd; exact hr⟩
theorem rs0_p (rs : List RPortD) : (rs0 rs).map (·.p) = rs.map (·.p) := by unfold rs0; rw [List.map_map]; rfl
theorem rs0_state (rs : List RPortD) : (rs0 rs).map (·.state) = List.replicate rs.length 0 := by
 unfold rs0
 rw [List.map_map]
 induction rs with
 | nil => rfl
 | cons r rs ih => rw [List.map_cons, ih, List.length_cons, List.replicate_succ]; rfl
theorem step_ref {w : World} {A : BrA} {s : BrS} {RA A' : RefA} {x x' : RefS} {XB : Nat} (hT : BrT w A s) (hX : row w XB = (refV RA x).toArray) (hR : RefT w A' x') (hO : RPortsOff (XB :: A.muts) w A'.pa x'.rs) (hex : XB ∈ A.ex) (hn : ∀ b ∈ [A.B, A.SB, A.LT, A.LM, A.HT, A.HM], b ≠ XB) :
  BrT (w.setRow XB (refV A' x').toArray) A s ∧ RefK (XB :: A.muts) (w.setRow XB (refV A' x').toArray) A' x' ∧ row (w.setRow XB (refV A' x').toArray) XB = (refV A' x').toArray :=
 ⟨hT.other hex hn _, (refK_of hT hX hR hO).kept (BelowS.set w _ (by simp)), row_setRow_same (by rw [hX]; simp [refV]) (by rw [hX]; simp [refV])⟩
theorem tickL_perm {time : Int} {m m' : List LB} (h : m.Perm m') : (tickL time m).Perm (tickL time m') := h.filterMap _
theorem dropL_perm {p : Int} {m m' : List LB} (h : m.Perm m') : (dropL p m).Perm (dropL p m') := h.filter _
theorem Rel.tick {s : BrS} {x : RefS} (h : Rel s x) : Rel (tickS s) { x with st := tickL x.ageing x.st, bi := tickH x.ageing x.bi } :=
 { h with st := by show (tickL x.ageing x.st).Perm (tickL s.ageing s.st); rw [h.ageing]; exact tickL_perm h.st, bi := by show tickH x.ageing x.bi = tickH s.ageing s.bi; rw [h.ageing, h.bi] }
theorem modify_p (rs : List RPortD) (k : Nat) (n : Int) : (setR rs k n).map (·.p) = rs.map (·.p) := by
 unfold setR
 apply List.ext_getElem?
 intro i
 rw [List.getElem?_map, List.getElem?_map, List.getElem?_modify]
 cases rs[i]? with
 | none => simp
 | some r => by_cases hk : k = i <;> simp [hk]
theorem modify_state (rs : List RPortD) (k : Nat) (n : Int) : (setR rs k n).map (·.state) = (rs.map (·.state)).set k n := by
 unfold setR
 apply List.ext_getElem?
 intro i
 rw [List.getElem?_map, List.getElem?_modify, List.getElem?_set, List.getElem?_map, List.length_map]
 by_cases hk : k = i
 ·
  subst hk
  by_cases hl : k < rs.length
  ·
   simp [hl]
  ·
   rw [List.getElem?_eq_none (by omega)]; simp [hl]
 ·
  simp only [if_neg hk]
  cases rs[i]? with
  | none => simp [hk]
  | some r => simp [hk]
theorem Rel.turn {s : BrS} {x : RefS} (h : Rel s x) (k : Nat) (n : Int) : Rel (stateS s k n) (stateR x k n) := by
 refine { h with ports := ?_, states := ?_, st := ?_ }
 ·
  show s.ports = (setR x.rs k n).map (·.p)
  rw [modify_p]; exact h.ports
 ·
  show s.states.set k n = (setR x.rs k n).map (·.state)
  rw [modify_state, h.states]
 ·
  show (if n = 0 then dropL k x.st else x.st).Perm (if n = 0 then dropL k s.st else s.st)
  split
  ·
   exact dropL_perm h.st
  ·
   exact h.st
theorem port_ways (p n : Int) : ((¬ 0 ≤ p ∧ decide (0 ≤ p) = false) ∨ (0 ≤ p ∧ decide (0 ≤ p) = true ∧ ¬ p < n ∧ decide (p < n) = false)) ∨ (0 ≤ p ∧ p < n ∧ decide (0 ≤ p) = true ∧ decide (p < n) = true) := by
 by_cases h0 : 0 ≤ p
 ·
  by_cases h1 : p < n
  ·
   exact .inr ⟨h0, h1, decide_eq_true h0, decide_eq_true h1⟩
  ·
   exact .inl (.inr ⟨h0, decide_eq_true h0, h1, decide_eq_false h1⟩)
 ·
  exact .inl (.inl ⟨h0, decide_eq_false h0⟩)
theorem n_ways (n : Int) : ((¬ 0 ≤ n ∧ decide (0 ≤ n) = false) ∨ (0 ≤ n ∧ decide (0 ≤ n) = true ∧ ¬ n ≤ 3 ∧ decide (n ≤ 3) = false)) ∨ (0 ≤ n ∧ n ≤ 3) := by
 by_cases h0 : 0 ≤ n
 ·
  by_cases h1 : n ≤ 3
  ·
   exact .inr ⟨h0, h1⟩
  ·
   exact .inl (.inr ⟨h0, decide_eq_true h0, h1, decide_eq_false h1⟩)
 ·
  exact .inl (.inl ⟨h0, decide_eq_false h0⟩)
@[simp, go_sem] theorem refV_length (A : RefA) (x : RefS) : (refV A x).length = 9 := rfl
@[simp, go_sem] theorem refV_take (A : RefA) (x : RefS) : (refV A x).take 9 = refV A x := rfl
@[simp, go_sem] theorem refV_drop (A : RefA) (x : RefS) : (refV A x).drop 9 = [] := rfl
@[simp, go_sem] theorem refV_ones (A : RefA) (x : RefS) : ones (refV A x) = true := by simp [refV]
set_option maxRecDepth 20000 in
set_option maxHeartbeats 8000000 in
theorem relayPlays_any (pa : Option Addr) (cap : Nat) (rs : List RPortD) (ageing : Int) (aa : Option Addr) (acap : Nat) (acts : List Act22) (w : World) (h : RPortsAt w pa rs) (hA : Acts22 w aa acts) (hsl : ∀ a ∈ acts, a.s.length ≤ maxLen) (hdl : ∀ a ∈ acts, a.d < 256) :
  Calls Tryz.prog 3 #[.slice pa rs.length cap, .int .i64 ageing, .slice aa acts.length acap] w fun e w' => e = .returned (.bool true) ∧ Below w.heap.size w w' := by
 have hm := h.1
 have hm2 : (rs.length : Int) ≤ 9223372036854775807 := by unfold maxLen at hm; omega
 have am := hA.1
 rw [List.length_map] at am
 have am2 : (acts.length : Int) ≤ 9223372036854775807 := by unfold maxLen at am; omega
 go_enter Tryz.func3, Tryz.ntmps3
 go_wp2_with fail
 (with_reducible refine (awake22_any _).mono ?_)
 rintro e w1 ⟨rfl, b1⟩
 have h1 := h.below b1
 have hA1 := hA.below b1
 have z1 := b1.size
 go_wp2_with fail
 (with_reducible refine (few22_any pa cap rs aa acap acts _ h1 hA1 hsl).mono ?_)
 rintro e w2 hfew
 obtain ⟨⟨fb, rfl, hfb⟩, rfl⟩ := hfew
 cases fb with
 | false =>
  go_wp2_with fail
  (with_reducible refine (awake22_any _).mono ?_)
  rintro e w3 ⟨rfl, b3⟩
  go_wp2_with fail
  go_ret
  exact ⟨rfl, b1.trans (b3.mono z1)⟩
 | true =>
 obtain ⟨h40, h60, h2k⟩ := hfb rfl
 clear hfb
 go_wp2_with fail
 (with_reducible refine (fresh_any pa cap rs _ h1 (by omega)).mono ?_)
 rintro e w3 ⟨⟨u, rfl, pa0, cap0, rfl, hfr⟩, b3⟩
 have z3 := b3.size
 obtain ⟨XB, hXB⟩ : ∃ y, w3.heap.size = y := ⟨_, rfl⟩
 obtain ⟨w4, hw4⟩ : ∃ y, w3.alloc (.cells (Value.slice pa0 rs.length cap0 :: Value.int .i64 ageing :: (zeros 2 (Value.slice none 0 0) ++ zeros 5 (Value.int .i64 0))).toArray 31) = y := ⟨_, rfl⟩
 have b4 : Below w3.heap.size w3 w4 := by rw [← hw4]; exact Below.alloc (Below.refl _ _) (Nat.le_refl _) _
 have z4 : w4.heap.size = w3.heap.size + 1 := by rw [← hw4, alloc_sizeW]
 have r4 : row w4 w3.heap.size = #[Value.slice pa0 rs.length cap0, Value.int .i64 ageing, Value.slice none 0 0, Value.slice none 0 0, Value.int .i64 0, Value.int .i64 0, Value.int .i64 0, Value.int .i64 0, Value.int .i64 0] := by rw [← hw4]; exact row_alloc_at _ _ _ rfl
 have B4 : Below w.heap.size w w4 := b1.trans ((b3.mono z1).trans (b4.mono (Nat.le_trans z1 z3)))
 have h4 : RPortsAt w4 pa rs := h.below B4
 have HFR := Lib.hid hfr
 clear hfr
 go_wp2_with fail
 (try rw [hw4])
 (try clear hw4)
 (with_reducible refine (of22_any pa cap rs _ h4 (by omega)).mono ?_)
 rintro e w5 ⟨⟨u, rfl, pa', cap', rfl, hpo⟩, b5⟩
 have z5 := b5.size
 have r5 := (row_below b5 (by omega)).trans r4
 have B5 := B4.trans (b5.mono B4.size)
 have hN := rNewX2_any ageing pa' cap' (rs.map (·.p)) w5 [w3.heap.size] (by intro s hs; rw [List.mem_singleton.1 hs]; omega) hpo (by rw [List.length_map]; omega)
 rw [List.length_map] at hN
 have HN := Lib.hid hN
 clear hN hA1 hpo
 go_wp2_with fail
 (with_reducible refine HN.out.mono ?_)
 rintro e w6 hor
 have b6 : Below w5.heap.size w5 w6 := by
  rcases hor with ⟨_, _, b⟩ | ⟨_, A, _, hnb, _⟩
  ·
   exact b
  ·
   exact hnb.below
 have z6 := b6.size
 have r6 := (row_below b6 (by omega)).trans r5
 rw [hXB] at r6
 have B6 := B5.trans (b6.mono B5.size)
 have c36 : Below w3.heap.size w3 w6 := b4.trans ((b5.mono (by omega)).trans (b6.mono (by omega)))
 have hr0 : ∀ S : List Nat, (∀ x ∈ S, w2.heap.size ≤ x) → RPortsOff S w6 pa0 (rs0 rs) := fun S hS => (HFR.out S hS).below c36
 have HR0 := Lib.hid hr0
 have HRT := Lib.hid (fun W (h : RPortsAt W pa0 (rs0 rs)) => r22Right_any ⟨pa0, cap0, none, 0, none, 0⟩ ⟨rs0 rs, ageing, [], [], 0, 0, 0, 0, 0⟩ W h)
 unfold refV at HRT
 simp only [rs0_length, List.length_nil, rs0_p] at HRT
 clear hr0 c36 b4 b5 b6 r4 r5 HFR
 rcases hor with ⟨hno, rfl, _⟩ | ⟨hok, A, rfl, hnb, hex, hAlt⟩
 ·
  rw [hno] at HRT
  go_wp2_with fail
  (with_reducible refine (HRT.out _ (HR0.out [] (fun x hx => absurd hx (by simp))).at).mono ?_)
  rintro e w7 ⟨rfl, b7⟩
  go_wp2_with fail
  go_ret
  exact ⟨rfl, B6.trans (b7.mono B6.size)⟩
 rw [hok] at HRT
 have hmu := lo_muts hnb.lo
 have hlo := hnb.lo
 have hbr := hnb.br
 obtain ⟨ps, hps⟩ : ∃ x, rs.map (·.p) = x := ⟨_, rfl⟩
 have hpl : ps.length = rs.length := by rw [← hps, List.length_map]
 rw [hps] at hbr hok
 have hgd := newG ageing ps hok
 have hn32 : ps.length ≤ 32 := hgd.1.n32
 have hplI : (rs.length : Int) ≤ 32 := by omega
 have hXm : XB ∉ A.muts := fun hm => by have := hmu XB hm; omega
 have hXe : XB ∈ A.ex := by rw [hex, hXB]; simp
 have hXn : ∀ b ∈ [A.B, A.SB, A.LT, A.LM, A.HT, A.HM], b ≠ XB := fun b hb e => by have := hlo b hb; omega
 have hmw : ∀ x ∈ A.muts, w.heap.size ≤ x := fun x hx => Nat.le_trans B5.size (hmu x hx)
 have hR0 := HR0.out (XB :: A.muts) (fun y hy => by
  rcases List.mem_cons.1 hy with rfl | hy
  ·
   omega
  ·
   have := hmu y hy; omega)
 have hK0 : RefK (XB :: A.muts) w6 ⟨pa0, cap0, none, 0, none, 0⟩ ⟨rs0 rs, ageing, [], [], 0, 0, 0, 0, 0⟩ :=
  refK_of (A0 := ⟨pa0, cap0, none, 0, none, 0⟩) (x0 := ⟨rs0 rs, ageing, [], [], 0, 0, 0, 0, 0⟩) hbr (by rw [r6]; simp [refV]) ⟨hR0.at, ElemsAt.nil _ _ _, ElemsAt.nil _ _ _⟩ hR0
 have hL0 : Rel (newS ageing ps) ⟨rs0 rs, ageing, [], [], 0, 0, 0, 0, 0⟩ := ⟨by rw [rs0_p]; exact hps.symm, by rw [rs0_state, ← hpl]; rfl, rfl, List.Perm.refl _, rfl, rfl, rfl, rfl, rfl, rfl⟩
 have HK0 := Lib.hid hK0
 have HL0 := Lib.hid hL0
 have HBR := Lib.hid hbr
 have HGD := Lib.hid hgd
 have HMU := Lib.hid hmw
 have HXM := Lib.hid hXm
 have HXE := Lib.hid hXe
 have HXN := Lib.hid hXn
 have HPS := Lib.hid hps
 have HDL := Lib.hid hdl
 have H2K := Lib.hid h2k
 clear hbr hok hnb hmu HN hps hgd hex hAlt hdl h2k hlo hK0 hL0 hXm hXe hXn hmw hR0
 go_wp2_with fail
 (with_reducible refine (HRT.out _ (HR0.out [] (fun x hx => absurd hx (by simp))).at).mono ?_)
 rintro e w7 ⟨rfl, b7⟩
 have z7 := b7.size
 have r7 := (row_below b7 (by omega)).trans r6
 have B7 := B6.trans (b7.mono B6.size)
 have HBR7 := Lib.hid (HBR.out.below b7)
 have HK7 := Lib.hid (HK0.out.kept (BelowS.of b7))
 have R7 : row w7 XB = (refV ⟨pa0, cap0, none, 0, none, 0⟩ ⟨rs0 rs, ageing, [], [], 0, 0, 0, 0, 0⟩).toArray := by rw [r7]; simp [refV]
 have HR7 := Lib.hid R7
 have lX7 : XB < w7.heap.size := by omega
 have hXw : w.heap.size ≤ XB := by omega
 clear b7 r6 r7 R7 HBR HK0 B6 HRT HR0 z7 z6 z5 z4 z3
 go_wp2_with fail
 go_loopw [10] (fun i wr => ∃ j : Nat, j ≤ acts.length ∧ i = .int .i64 j ∧ ∃ s x RA, BrG s j ∧ s.ports = ps ∧ BrT wr A s ∧ Rel s x ∧ RefK (XB :: A.muts) wr RA x ∧ row wr XB = (refV RA x).toArray ∧ Below w.heap.size w wr ∧ XB < wr.heap.size) (fun i _ => acts.length - (intOf i).toNat)
 case atStart => exact ⟨0, by omega, rfl, _, _, _, HGD.out.1, rfl, HBR7.out, HL0.out, HK7.out, HR7.out, B7, lX7⟩
 case round =>
  clear HBR7 HK7 HR7 B7 lX7 HL0
  obtain ⟨j, hj, rfl, s, x, RA, hg, hsp, hT, hRL, hRK, rX, cb, lX⟩ := hrel
  by_cases hlt : j < acts.length
  ·
   have hltI : (j : Int) < (acts.length : Int) := by omega
   have hspl : s.ports.length = rs.length := by rw [hsp]; exact hpl
   have hxl : x.rs.length = rs.length := by rw [← hRL.len, hspl]
   obtain ⟨ab, ao, rfl, hal, hrd⟩ := hA.get hlt
   obtain ⟨a, ha⟩ : ∃ x, acts[j] = x := ⟨_, rfl⟩
   have ha2k : a.s.length ≤ 2000 := by rw [← ha]; exact H2K.out _ (List.getElem_mem hlt)
   have had : a.d < 256 := by rw [← ha]; exact HDL.out _ (List.getElem_mem hlt)
   rw [ha] at hrd
   have hld := run_loadS_at (P := Tryz.prog) (t := 40) (hrd wr cb) (by simp [act22C])
   unfold act22C at hld
   obtain ⟨o, ho⟩ : ∃ o, ao + j * 4 = o := ⟨_, rfl⟩
   rw [ho] at hld
   have hmo := rat_mod a.d 10 (by decide)
   obtain ⟨m, hm_⟩ : ∃ x, a.d % 10 = x := ⟨_, rfl⟩
   have hml : m < 10 := by rw [← hm_]; exact Nat.mod_lt _ (by decide)
   rw [hm_] at hmo
   have hmo10 : (a.d : Int).tmod 10 = (m : Int) := hmo
   obtain ⟨w8, hw8⟩ : ∃ x, wr.alloc (.cells #[Value.int .u8 (a.d : Int), Value.int .i64 a.port, Value.int .i64 a.n, Value.string ⟨a.s.toArray⟩] 40) = x := ⟨_, rfl⟩
   have b8 : Below wr.heap.size wr w8 := by rw [← hw8]; exact Below.alloc (Below.refl _ _) (Nat.le_refl _) _
   have z8 : w8.heap.size = wr.heap.size + 1 := by rw [← hw8]; exact alloc_sizeW _ _
   have rP8 : row w8 wr.heap.size = #[Value.int .u8 (a.d : Int), Value.int .i64 a.port, Value.int .i64 a.n, Value.string ⟨a.s.toArray⟩] := by rw [← hw8]; exact row_alloc_at _ _ _ rfl
   have c8 := cb.trans (b8.mono cb.size)
   have HT8 := Lib.hid (hT.below b8)
   have HK8 := Lib.hid (hRK.kept (BelowS.of b8))
   have rX8 := (row_below b8 lX).trans rX
   have lX8 : XB < w8.heap.size := by omega
   have HG := Lib.hid hg
   have HRL := Lib.hid hRL
   have hPm : wr.heap.size ∉ A.muts := by
    obtain ⟨l1, l2, l3, l4, l5, l6⟩ := hT.lts
    intro hm
    simp only [BrA.muts, List.mem_cons, List.not_mem_nil, or_false] at hm
    omega
   obtain ⟨P, hP⟩ : ∃ x, wr.heap.size = x := ⟨_, rfl⟩
   rw [hP] at rP8 z8 hPm
   have HPM := Lib.hid hPm
   have lP8 : P < w8.heap.size := by omega
   have hPX : XB < P := by omega
   clear hrd ha hmo hm_ hT hg hRL hRK rX b8 hPm cb lX
   have HST := Lib.hid (show x.st.length ≤ 1000 by rw [HRL.out.st.length_eq]; exact Nat.le_trans HG.out.stn (by omega))
   have HBI := Lib.hid (show x.bi.length ≤ 1024 by rw [HRL.out.bi]; exact HG.out.bin)
   have HAG := Lib.hid (show ∀ c ∈ x.st, 0 ≤ c.age ∧ c.age ≤ 1000000 from fun c hc => HG.out.sta c (HRL.out.st.mem_iff.1 hc))
   have HAH := Lib.hid (show ∀ c ∈ x.bi, 0 ≤ c.age ∧ c.age ≤ 1000000 by rw [HRL.out.bi]; exact HG.out.bia)
   have hxlI : (x.rs.length : Int) ≤ 32 := by omega
   by_cases hm0 : m = 0
   ·
    subst hm0
    rcases port_ways a.port (rs.length : Int) with (⟨hp0, hp0b⟩ | ⟨hp0, hp0b, hp1, hp1b⟩) | ⟨hp0, hp1, hp0b, hp1b⟩
    all_goals
     as_aux_lemma =>
      rw [show ((0 : Nat) : Int) = 0 from rfl] at hmo10
      have HTK := Lib.hid (rTick_any w8 HT8.out HG.out.std (Nat.le_trans HG.out.stn (by omega)) HG.out.sta HG.out.bid HG.out.bia)
      obtain ⟨s2, hs2⟩ : ∃ y, tickS s = y := ⟨_, rfl⟩
      obtain ⟨x2, hx2⟩ : ∃ y : RefS, { x with st := tickL x.ageing x.st, bi := tickH x.ageing x.bi } = y := ⟨_, rfl⟩
      have HRL2 := Lib.hid (show Rel s2 x2 by rw [← hs2, ← hx2]; exact HRL.out.tick)
      have HG2 := Lib.hid (show BrG s2 (j + 1) by rw [← hs2]; exact (tickS_good HG.out).more (by omega))
      have hsp2 : s2.ports = ps := by rw [← hs2]; exact hsp
      have HSP2 := Lib.hid hsp2
      clear hsp2
      go_wp2_with fail
      (try rw [hw8])
      (try clear hw8)
      (with_reducible refine HTK.out.mono ?_)
      rintro e w9 ⟨rfl, b9, t9⟩
      have z9 := b9.size
      have rX9 := (b9.row lX8 HXM.out).trans rX8
      have c9 := c8.trans (b9.below c8.size HMU.out)
      have HK9 := Lib.hid (HK8.out.kept (b9.sub (fun y hy => by simp [hy])))
      have HT9 := Lib.hid (show BrT w9 A s2 by rw [← hs2]; exact t9)
      have HTR := r22Tick_any RA x w9 HK9.out.t HST.out HBI.out HAG.out HAH.out
      rw [hx2] at HTR
      have HTR2 := Lib.hid HTR
      have RX9 := Lib.hid rX9
      have lX9 : XB < w9.heap.size := by omega
      have hrx : x2.rs = x.rs := by rw [← hx2]
      have HRX := Lib.hid hrx
      clear b9 t9 HTK HTR hx2 hs2 hrx
      go_wp2_with fail
      (with_reducible refine HTR2.out.mono ?_)
      rintro e w10 ⟨⟨A2, hpa2, rfl, hR2⟩, b10⟩
      have hO10 : RPortsOff (XB :: A.muts) w10 A2.pa x2.rs := by rw [hpa2, HRX.out]; exact HK9.out.off.below b10
      clear hpa2
      have z10 := b10.size
      have t10 : BrT w10 A s2 := HT9.out.below b10
      have rX10 := (row_below b10 (by omega)).trans RX9.out
      obtain ⟨t11, k11, r11⟩ := step_ref t10 rX10 hR2 hO10 HXE.out HXN.out
      obtain ⟨w11, hw11⟩ : ∃ y, w10.setRow XB (refV A2 x2).toArray = y := ⟨_, rfl⟩
      rw [hw11] at t11 k11 r11
      have c11 : Below w.heap.size w w11 := by rw [← hw11]; exact Below.setRow (c9.trans (b10.mono c9.size)) hXw _
      have lX11 : XB < w11.heap.size := by rw [← hw11, setRow_size]; omega
      have HT11 := Lib.hid t11
      have HK11 := Lib.hid k11
      clear t10 t11 k11 hR2 hO10 b10
      go_wp2_with fail
      (try rw [hw11])
      (try clear hw11)
      clear rX10
      have HKC := Lib.hid (fun W (h : BrT W A s2) => (show Calls Tryz.prog 16 #[.pointer (some ⟨A.B, 0, none⟩)] W fun e w' => e = .returned (.agg #[.int .i64 x2.c0, .int .i64 x2.c1, .int .i64 x2.c2, .int .i64 x2.c3, .int .i64 x2.c4]) ∧ Below W.heap.size W w' by rw [← HRL2.out.c0, ← HRL2.out.c1, ← HRL2.out.c2, ← HRL2.out.c3, ← HRL2.out.c4]; exact rCounts_any W h))
      have hG : GrowP fun W => BrT W A s2 := grow_br A s2
      have hTT := HT11.out
      have HR := Lib.hid r11
      unfold refV at r11
      go_wp2_with fail
      refine wp_region_beginX [(XB, #[Value.slice A2.pa x2.rs.length A2.pcap, Value.int .i64 x2.ageing, Value.slice A2.sa x2.st.length A2.scap, Value.slice A2.ba x2.bi.length A2.bcap, Value.int .i64 x2.c0, Value.int .i64 x2.c1, Value.int .i64 x2.c2, Value.int .i64 x2.c3, Value.int .i64 x2.c4])] (fun W => BrT W A s2) hG rfl (by simp only [Rws]; (repeat (first | exact trivial | refine ⟨(by first | assumption | (simp [go_sem, *]; done)), (by first | omega | (simp; done) | (simp; omega)), ?_⟩))) (hTT) (fun hS => ?_)
      refine sp 0 hG hS ?_
      refine sc 1 (v := ?_) hG hS ?_ ?_
      rotate_left
      ·
       intro w' hS'
       obtain ⟨hS', hX'⟩ := hS'
       simp only [Rws] at hS'
       go_simp
       with_reducible refine (HKC.out _ hX').mono ?_
       rintro e w'' ⟨rfl, hb⟩
       exact ⟨_, rfl, by rfl, hb⟩
      refine sp 2 hG hS ?_
      refine sp 3 hG hS ?_
      refine sp 4 hG hS ?_
      refine sp 5 hG hS ?_
      refine sp 6 hG hS ?_
      refine sp 7 hG hS ?_
      refine sp 8 hG hS ?_
      refine sp 9 hG hS ?_
      refine sp 10 hG hS ?_
      refine sp 11 hG hS ?_
      refine sp 12 hG hS ?_
      refine sp 13 hG hS ?_
      refine sp 14 hG hS ?_
      refine sp 15 hG hS ?_
      refine sp 16 hG hS ?_
      refine sp 17 hG hS ?_
      refine sp 18 hG hS ?_
      refine wpAnyR_done (by kernel_rfl) (fun wz bwz => ?_) _
      have bz := below_step (Below.drew (Below.refl _ _)) bwz
      have HTz := Lib.hid (HT11.out.below bz)
      have HKz := Lib.hid (HK11.out.kept (BelowS.of bz))
      have rXz := (row_below bz lX11).trans HR.out
      have cz := c11.trans (bz.mono c11.size)
      have lXz : XB < wz.heap.size := Nat.lt_of_lt_of_le lX11 bz.size
      clear hS hTT hG bwz bz
      go_wp2_with fail
      go_roundw
      case rel => exact ⟨j + 1, by omega, by simp, s2, x2, A2, HG2.out, HSP2.out, HTz.out, HRL2.out, HKz.out, rXz, cz, lXz⟩
      case measure => simp [intOf]; omega
   have hm0I : ((m : Int) == 0) = false := beq_eq_false_iff_ne.2 (by omega)
   have hm0J : ((m : Nat) == 0) = false := beq_eq_false_iff_ne.2 hm0
   by_cases hm3 : m < 3
   ·
    skip
    have hm12 : m = 1 ∨ m = 2 := by omega
    rcases hm12 with rfl | rfl
    all_goals
     (first | rw [show ((1 : Nat) : Int) = 1 from rfl] at hmo10 | rw [show ((2 : Nat) : Int) = 2 from rfl] at hmo10)
     clear hm0I hm0J
     have hways : ((¬ 0 ≤ a.port ∧ decide (0 ≤ a.port) = false) ∨ (0 ≤ a.port ∧ decide (0 ≤ a.port) = true ∧ ¬ a.port < (rs.length : Int) ∧ decide (a.port < (rs.length : Int)) = false) ∨ ((0 ≤ a.port ∧ a.port < (rs.length : Int) ∧ decide (0 ≤ a.port) = true ∧ decide (a.port < (rs.length : Int)) = true) ∧ ((¬ 0 ≤ a.n ∧ decide (0 ≤ a.n) = false) ∨ (0 ≤ a.n ∧ decide (0 ≤ a.n) = true ∧ ¬ a.n ≤ 3 ∧ decide (a.n ≤ 3) = false)))) ∨ (0 ≤ a.port ∧ a.port < (rs.length : Int) ∧ 0 ≤ a.n ∧ a.n ≤ 3) := by
      rcases port_ways a.port (rs.length : Int) with (h | h) | h
      ·
       exact .inl (.inl h)
      ·
       exact .inl (.inr (.inl h))
      ·
       rcases n_ways a.n with h2 | h2
       ·
        exact .inl (.inr (.inr ⟨h, h2⟩))
       ·
        exact .inr ⟨h.1, h.2.1, h2⟩
     rcases hways with hno | ⟨hp0, hp1, hn0, hn1⟩
     ·
      rcases hno with ⟨hp0, hp0b⟩ | ⟨hp0, hp0b, hp1, hp1b⟩ | ⟨⟨hp0, hp1, hp0b, hp1b⟩, ⟨hn0, hn0b⟩ | ⟨hn0, hn0b, hn1, hn1b⟩⟩
      all_goals
       as_aux_lemma =>
        have HS := Lib.hid (rState_bad w8 HT8.out a.port a.n HG.out.n32 (by omega))
        obtain ⟨s2, hs2⟩ : ∃ y, s = y := ⟨_, rfl⟩
        obtain ⟨x2, hx2⟩ : ∃ y, x = y := ⟨_, rfl⟩
        obtain ⟨A2, hA2⟩ : ∃ y, RA = y := ⟨_, rfl⟩
        subst hs2 hx2 hA2
        go_wp2_with fail
        (try rw [hw8])
        (try clear hw8)
        (with_reducible refine HS.out.mono ?_)
        rintro e w9 ⟨rfl, b9⟩
        have rX9 := (row_below b9 lX8).trans rX8
        have c9 := c8.trans (b9.mono c8.size)
        have z9 := b9.size
        have HK9 := Lib.hid (HK8.out.kept (BelowS.of b9))
        have HT9 := Lib.hid (HT8.out.below b9)
        have lX9 : XB < w9.heap.size := by omega
        have HG2 := Lib.hid (HG.out.more (show j ≤ j + 1 by omega))
        clear b9 HS
        have HKC := Lib.hid (fun W (h : BrT W A s) => (show Calls Tryz.prog 16 #[.pointer (some ⟨A.B, 0, none⟩)] W fun e w' => e = .returned (.agg #[.int .i64 x.c0, .int .i64 x.c1, .int .i64 x.c2, .int .i64 x.c3, .int .i64 x.c4]) ∧ Below W.heap.size W w' by rw [← HRL.out.c0, ← HRL.out.c1, ← HRL.out.c2, ← HRL.out.c3, ← HRL.out.c4]; exact rCounts_any W h))
        have hG : GrowP fun W => BrT W A s := grow_br A s
        have hTT := HT9.out
        have HR := Lib.hid rX9
        unfold refV at rX9
        go_wp2_with fail
        refine wp_region_beginX [(XB, #[Value.slice RA.pa x.rs.length RA.pcap, Value.int .i64 x.ageing, Value.slice RA.sa x.st.length RA.scap, Value.slice RA.ba x.bi.length RA.bcap, Value.int .i64 x.c0, Value.int .i64 x.c1, Value.int .i64 x.c2, Value.int .i64 x.c3, Value.int .i64 x.c4])] (fun W => BrT W A s) hG rfl (by simp only [Rws]; (repeat (first | exact trivial | refine ⟨(by first | assumption | (simp [go_sem, *]; done)), (by first | omega | (simp; done) | (simp; omega)), ?_⟩))) (hTT) (fun hS => ?_)
        refine sp 0 hG hS ?_
        refine sc 1 (v := ?_) hG hS ?_ ?_
        rotate_left
        ·
         intro w' hS'
         obtain ⟨hS', hX'⟩ := hS'
         simp only [Rws] at hS'
         go_simp
         with_reducible refine (HKC.out _ hX').mono ?_
         rintro e w'' ⟨rfl, hb⟩
         exact ⟨_, rfl, by rfl, hb⟩
        refine sp 2 hG hS ?_
        refine sp 3 hG hS ?_
        refine sp 4 hG hS ?_
        refine sp 5 hG hS ?_
        refine sp 6 hG hS ?_
        refine sp 7 hG hS ?_
        refine sp 8 hG hS ?_
        refine sp 9 hG hS ?_
        refine sp 10 hG hS ?_
        refine sp 11 hG hS ?_
        refine sp 12 hG hS ?_
        refine sp 13 hG hS ?_
        refine sp 14 hG hS ?_
        refine sp 15 hG hS ?_
        refine sp 16 hG hS ?_
        refine sp 17 hG hS ?_
        refine sp 18 hG hS ?_
        refine wpAnyR_done (by kernel_rfl) (fun wz bwz => ?_) _
        have bz := below_step (Below.drew (Below.refl _ _)) bwz
        have HTz := Lib.hid (HT9.out.below bz)
        have HKz := Lib.hid (HK9.out.kept (BelowS.of bz))
        have rXz := (row_below bz lX9).trans HR.out
        have cz := c9.trans (bz.mono c9.size)
        have lXz : XB < wz.heap.size := Nat.lt_of_lt_of_le lX9 bz.size
        clear hS hTT hG bwz bz
        go_wp2_with fail
        go_roundw
        case rel => exact ⟨j + 1, by omega, by simp, s, x, RA, HG2.out, hsp, HTz.out, HRL.out, HKz.out, rXz, cz, lXz⟩
        case measure => simp [intOf]; omega
     ·
      as_aux_lemma =>
       obtain ⟨k, hk⟩ : ∃ k : Nat, a.port = (k : Int) := ⟨a.port.toNat, by omega⟩
       have hkl : k < s.ports.length := by omega
       have hkx : k < x.rs.length := by omega
       rw [hk] at rP8 hw8 hp0 hp1
       have hp0b := decide_eq_true hp0
       have hp1b := decide_eq_true hp1
       have hn0b := decide_eq_true hn0
       have hn1b := decide_eq_true hn1
       have HS := Lib.hid (rState_ok w8 HT8.out k a.n HG.out.n32 hkl hn0 hn1 HG.out.std (Nat.le_trans HG.out.stn (by omega)))
       obtain ⟨s2, hs2⟩ : ∃ y, stateS s k a.n = y := ⟨_, rfl⟩
       obtain ⟨x2, hx2⟩ : ∃ y, stateR x k a.n = y := ⟨_, rfl⟩
       have HRL2 := Lib.hid (show Rel s2 x2 by rw [← hs2, ← hx2]; exact HRL.out.turn k a.n)
       have HG2 := Lib.hid (show BrG s2 (j + 1) by rw [← hs2]; exact (stateS_good HG.out k a.n).more (by omega))
       have HSP2 := Lib.hid (show s2.ports = ps by rw [← hs2]; exact hsp)
       go_wp2_with fail
       (try rw [hw8])
       (try clear hw8)
       (with_reducible refine HS.out.mono ?_)
       rintro e w9 ⟨rfl, b9, t9⟩
       have z9 := b9.size
       have rX9 := (b9.row lX8 HXM.out).trans rX8
       have rP9 := (b9.row lP8 HPM.out).trans rP8
       have c9 := c8.trans (b9.below c8.size HMU.out)
       have HK9 := Lib.hid (HK8.out.kept (b9.sub (fun y hy => by simp [hy])))
       have HT9 := Lib.hid (show BrT w9 A s2 by rw [← hs2]; exact t9)
       have HTR := r22State_any RA x k a.n w9 HK9.out.t hkx (by omega) HST.out
       rw [hx2] at HTR
       have HTR2 := Lib.hid HTR
       have RX9 := Lib.hid rX9
       have lX9 : XB < w9.heap.size := by omega
       have hrx : setR x.rs k a.n = x2.rs := by rw [← hx2]; rfl
       have HRX := Lib.hid hrx
       clear b9 t9 HS HTR hx2 hs2 hrx
       go_wp2_with fail
       (with_reducible refine HTR2.out.mono ?_)
       rintro e w10 ⟨⟨A2, rfl, hR2, hO2⟩, b10⟩
       have hO10 : RPortsOff (XB :: A.muts) w10 A2.pa x2.rs := by rw [← HRX.out]; exact hO2 _ HK9.out.off
       clear hO2
       have z10 := b10.size
       have t10 : BrT w10 A s2 := HT9.out.below b10
       have rX10 := (row_below b10 (by omega)).trans RX9.out
       obtain ⟨t11, k11, r11⟩ := step_ref t10 rX10 hR2 hO10 HXE.out HXN.out
       obtain ⟨w11, hw11⟩ : ∃ y, w10.setRow XB (refV A2 x2).toArray = y := ⟨_, rfl⟩
       rw [hw11] at t11 k11 r11
       have c11 : Below w.heap.size w w11 := by rw [← hw11]; exact Below.setRow (c9.trans (b10.mono c9.size)) hXw _
       have lX11 : XB < w11.heap.size := by rw [← hw11, setRow_size]; omega
       have HT11 := Lib.hid t11
       have HK11 := Lib.hid k11
       clear t10 t11 k11 hR2 hO10 b10
       go_wp2_with fail
       (try rw [hw11])
       (try clear hw11)
       clear rX10
       have HKC := Lib.hid (fun W (h : BrT W A s2) => (show Calls Tryz.prog 16 #[.pointer (some ⟨A.B, 0, none⟩)] W fun e w' => e = .returned (.agg #[.int .i64 x2.c0, .int .i64 x2.c1, .int .i64 x2.c2, .int .i64 x2.c3, .int .i64 x2.c4]) ∧ Below W.heap.size W w' by rw [← HRL2.out.c0, ← HRL2.out.c1, ← HRL2.out.c2, ← HRL2.out.c3, ← HRL2.out.c4]; exact rCounts_any W h))
       have hG : GrowP fun W => BrT W A s2 := grow_br A s2
       have hTT := HT11.out
       have HR := Lib.hid r11
       unfold refV at r11
       go_wp2_with fail
       refine wp_region_beginX [(XB, #[Value.slice A2.pa x2.rs.length A2.pcap, Value.int .i64 x2.ageing, Value.slice A2.sa x2.st.length A2.scap, Value.slice A2.ba x2.bi.length A2.bcap, Value.int .i64 x2.c0, Value.int .i64 x2.c1, Value.int .i64 x2.c2, Value.int .i64 x2.c3, Value.int .i64 x2.c4])] (fun W => BrT W A s2) hG rfl (by simp only [Rws]; (repeat (first | exact trivial | refine ⟨(by first | assumption | (simp [go_sem, *]; done)), (by first | omega | (simp; done) | (simp; omega)), ?_⟩))) (hTT) (fun hS => ?_)
       refine sp 0 hG hS ?_
       refine sc 1 (v := ?_) hG hS ?_ ?_
       rotate_left
       ·
        intro w' hS'
        obtain ⟨hS', hX'⟩ := hS'
        simp only [Rws] at hS'
        go_simp
        with_reducible refine (HKC.out _ hX').mono ?_
        rintro e w'' ⟨rfl, hb⟩
        exact ⟨_, rfl, by rfl, hb⟩
       refine sp 2 hG hS ?_
       refine sp 3 hG hS ?_
       refine sp 4 hG hS ?_
       refine sp 5 hG hS ?_
       refine sp 6 hG hS ?_
       refine sp 7 hG hS ?_
       refine sp 8 hG hS ?_
       refine sp 9 hG hS ?_
       refine sp 10 hG hS ?_
       refine sp 11 hG hS ?_
       refine sp 12 hG hS ?_
       refine sp 13 hG hS ?_
       refine sp 14 hG hS ?_
       refine sp 15 hG hS ?_
       refine sp 16 hG hS ?_
       refine sp 17 hG hS ?_
       refine sp 18 hG hS ?_
       refine wpAnyR_done (by kernel_rfl) (fun wz bwz => ?_) _
       have bz := below_step (Below.drew (Below.refl _ _)) bwz
       have HTz := Lib.hid (HT11.out.below bz)
       have HKz := Lib.hid (HK11.out.kept (BelowS.of bz))
       have rXz := (row_below bz lX11).trans HR.out
       have cz := c11.trans (bz.mono c11.size)
       have lXz : XB < wz.heap.size := Nat.lt_of_lt_of_le lX11 bz.size
       clear hS hTT hG bwz bz
       go_wp2_with fail
       go_roundw
       case rel => exact ⟨j + 1, by omega, by simp, s2, x2, A2, HG2.out, HSP2.out, HTz.out, HRL2.out, HKz.out, rXz, cz, lXz⟩
       case measure => simp [intOf]; omega
   have hm1 : ((m : Int) == 1) = false := beq_eq_false_iff_ne.2 (by omega)
   have hm2 : ((m : Int) == 2) = false := beq_eq_false_iff_ne.2 (by omega)
   have hm1J : ((m : Nat) == 1) = false := beq_eq_false_iff_ne.2 (by omega)
   have hm2J : ((m : Nat) == 2) = false := beq_eq_false_iff_ne.2 (by omega)
   rcases port_ways a.port (rs.length : Int) with hno | ⟨hp0, hp1, hp0b, hp1b⟩
   ·
    rcases hno with ⟨hp0, hp0b⟩ | ⟨hp0, hp0b, hp1, hp1b⟩
    all_goals
     as_aux_lemma =>
      have HB := Lib.hid (rCome_bad w8 HT8.out a.port a.s HG.out.n32 (by omega))
      go_wp2_with fail
      (try rw [hw8])
      (try clear hw8)
      (with_reducible refine HB.out.mono ?_)
      rintro e w9 ⟨rfl, b9⟩
      have rX9 := (row_below b9 lX8).trans rX8
      have c9 := c8.trans (b9.mono c8.size)
      have z9 := b9.size
      have HK9 := Lib.hid (HK8.out.kept (BelowS.of b9))
      have HT9 := Lib.hid (HT8.out.below b9)
      have lX9 : XB < w9.heap.size := by omega
      have RX9 := Lib.hid rX9
      clear b9 HB rX9
      go_wp2_with fail
      go_roundw
      case rel => exact ⟨j + 1, by omega, by simp, s, x, RA, HG.out.more (by omega), hsp, HT9.out, HRL.out, HK9.out, RX9.out, c9, lX9⟩
      case measure => simp [intOf]; omega
   ·
    as_aux_lemma =>
     obtain ⟨k, hk⟩ : ∃ k : Nat, a.port = (k : Int) := ⟨a.port.toNat, by omega⟩
     have hkl : k < s.ports.length := by omega
     have hkx : k < x.rs.length := by omega
     rw [hk] at rP8 hw8 hp0 hp1
     clear hp0b hp1b
     have hp0b := decide_eq_true hp0
     have hp1b := decide_eq_true hp1
     obtain ⟨t, ht1, ht2⟩ := talk_for2 a.s
     have hCome := rCome_any w8 HT8.out (N := j) (by omega) HG.out k hkl a.s (by omega) t ht1
     have hRef := fun W (h : RefT W RA x) => r22Come_any RA x s k a.s t W h HRL.out (N := j) (by omega) HG.out hkx (by omega) ht2
     have hcg := comeS_good HG.out hkl a.s t
     have hcp := comeS_ports s k a.s t
     obtain ⟨cr, hcr⟩ : ∃ x, comeS s k a.s t = x := ⟨_, rfl⟩
     rw [hcr] at hCome hcg hcp
     simp only [hcr] at hRef
     obtain ⟨s2, outs, er⟩ := cr
     dsimp only at hCome hcg hcp hRef
     have HCO := Lib.hid hCome
     have HCR := Lib.hid hRef
     have HG2 := Lib.hid hcg
     have HSP2 := Lib.hid (show s2.ports = ps by rw [hcp.1]; exact hsp)
     clear hCome hcg hcp hcr ht1 ht2 hRef
     go_wp2_with fail
     (try rw [hw8])
     (try clear hw8)
     (with_reducible refine HCO.out.mono ?_)
     rintro e w9 ⟨⟨u, rfl, hown⟩, b9, t9⟩
     have z9 := b9.size
     have rX9 := (b9.row lX8 HXM.out).trans rX8
     have rP9 := (b9.row lP8 HPM.out).trans rP8
     have c9 := c8.trans (b9.below c8.size HMU.out)
     have HK9 := Lib.hid (HK8.out.kept (b9.sub (fun y hy => by simp [hy])))
     have HT9 := Lib.hid t9
     have HOW := Lib.hid hown
     have lX9 : XB < w9.heap.size := by omega
     have lP9 : P < w9.heap.size := by omega
     obtain ⟨ua, uc, e, hel⟩ := hown.elems
     rw [List.length_map] at e
     subst e
     have houtI : (outs.length : Int) ≤ 9223372036854775807 := by
      have := hel.1
      rw [List.length_map] at this
      unfold maxLen at this
      omega
     clear b9 t9 HCO hown hel
     go_wp2_with fail
     (with_reducible refine (HCR.out _ HK9.out.t).mono ?_)
     rintro e w10 ⟨⟨A2, hpa2, x2, hrs2, uo, rfl, hR2, hRL2, ho2⟩, b10⟩
     have z10 := b10.size
     obtain ⟨va, vc, e, hel2⟩ := ho2.elems
     rw [List.length_map] at e
     subst e
     have rX10 := (row_below b10 lX9).trans rX9
     have rP10 := (row_below b10 lP9).trans rP9
     have hO10 : RPortsOff (XB :: A.muts) w10 A2.pa x2.rs := by rw [hpa2, hrs2]; exact HK9.out.off.below b10
     obtain ⟨w11, hw11⟩ : ∃ y, w10.alloc (.cells (refV A2 x2).toArray 31) = y := ⟨_, rfl⟩
     have b11 : Below w10.heap.size w10 w11 := by rw [← hw11]; exact Below.alloc (Below.refl _ _) (Nat.le_refl _) _
     have z11 : w11.heap.size = w10.heap.size + 1 := by rw [← hw11, alloc_sizeW]
     have rY11 : row w11 w10.heap.size = (refV A2 x2).toArray := by rw [← hw11]; exact row_alloc_at _ _ _ rfl
     have rX11 := (row_below b11 (by omega)).trans rX10
     obtain ⟨t12, k12, r12⟩ := step_ref ((HT9.out.below b10).below b11) rX11 (hR2.below b11) (hO10.below b11) HXE.out HXN.out
     have HOX := Lib.hid (((HOW.out.below b10).below b11).other (X := XB) (by omega) (refV A2 x2).toArray)
     have HOY := Lib.hid ((ho2.below b11).other (X := XB) (by omega) (refV A2 x2).toArray)
     obtain ⟨w12, hw12⟩ : ∃ y, w11.setRow XB (refV A2 x2).toArray = y := ⟨_, rfl⟩
     rw [hw12] at t12 k12 r12 HOX HOY
     have z12 : w12.heap.size = w11.heap.size := by rw [← hw12, setRow_size]
     have c12 : Below w.heap.size w w12 := by rw [← hw12]; exact Below.setRow ((c9.trans (b10.mono c9.size)).trans (b11.mono (Nat.le_trans c9.size z10))) hXw _
     have lX12 : XB < w12.heap.size := by omega
     have HT12 := Lib.hid t12
     have HK12 := Lib.hid k12
     have HRL2 := Lib.hid hRL2
     clear t12 k12 hR2 hO10 hRL2 ho2 hel2 hpa2 hrs2 b10 b11 HOW rX9 rP9 z12 z11 z10 z9
     go_wp2_with fail
     (try rw [hw11])
     (try clear hw11)
     go_wp2_with fail
     (try rw [hw12])
     (try clear hw12)
     clear rX10 rX11 rY11 rP10
     go_wp2_with fail
     go_loopw [19] (fun i wr => ∃ q : Nat, q ≤ outs.length ∧ i = .int .i64 q ∧ Below w12.heap.size w12 wr) (fun i _ => outs.length - (intOf i).toNat)
     case atStart => exact ⟨0, by omega, rfl, Below.refl _ _⟩
     case round =>
      obtain ⟨q, hq, rfl, D⟩ := hrel
      have zD := D.size
      by_cases hlq : q < outs.length
      ·
       have hlqI : (q : Int) < (outs.length : Int) := by omega
       obtain ⟨b1', o1', e1', hb1', hr1'⟩ := HOX.out.at.2 q (outC outs[q]) (by rw [List.getElem?_map, List.getElem?_eq_getElem hlq]; rfl)
       obtain ⟨b2', o2', e2', hb2', hr2'⟩ := HOY.out.at.2 q (outC outs[q]) (by rw [List.getElem?_map, List.getElem?_eq_getElem hlq]; rfl)
       subst e1' e2'
       obtain ⟨ov, hov⟩ : ∃ y, outs[q] = y := ⟨_, rfl⟩
       rw [hov] at hr1' hr2'
       obtain ⟨p1, hp1'⟩ : ∃ y, o1' + q * 2 = y := ⟨_, rfl⟩
       obtain ⟨p2, hp2'⟩ : ∃ y, o2' + q * 2 = y := ⟨_, rfl⟩
       rw [hp1'] at hr1'
       rw [hp2'] at hr2'
       have g1 : ∀ W, Below w12.heap.size w12 W → W.cell? ⟨b1', p1, none⟩ = some (.int .i64 (ov.1 : Int)) := fun W hW => hr1' W (blk_below hW hb1') 0 _ rfl
       have g2 : ∀ W, Below w12.heap.size w12 W → W.cell? ⟨b1', p1 + 1, none⟩ = some (.string ⟨ov.2.toArray⟩) := fun W hW => hr1' W (blk_below hW hb1') 1 _ rfl
       have g3 : ∀ W, Below w12.heap.size w12 W → W.cell? ⟨b2', p2, none⟩ = some (.int .i64 (ov.1 : Int)) := fun W hW => hr2' W (blk_below hW hb2') 0 _ rfl
       have g4 : ∀ W, Below w12.heap.size w12 W → W.cell? ⟨b2', p2 + 1, none⟩ = some (.string ⟨ov.2.toArray⟩) := fun W hW => hr2' W (blk_below hW hb2') 1 _ rfl
       have hG : GrowP fun W => Below w12.heap.size w12 W := grow_base w12
       clear hr1' hr2' hov
       go_wp2_with fail
       refine wp_region_beginX [] (fun W => Below w12.heap.size w12 W) hG rfl (by simp only [Rws]; (repeat (first | exact trivial | refine ⟨(by first | assumption | (simp [go_sem, *]; done)), (by first | omega | (simp; done) | (simp; omega)), ?_⟩))) (D) (fun hS => ?_)
       refine sp 0 hG hS ?_
       refine sp 1 hG hS ?_
       refine sp 2 hG hS ?_
       refine sp 3 hG hS ?_
       refine sp 4 hG hS ?_
       refine sp 5 hG hS ?_
       refine sp 6 hG hS ?_
       refine sp 7 hG hS ?_
       refine sp 8 hG hS ?_
       refine sp 9 hG hS ?_
       refine sp 10 hG hS ?_
       refine sp 11 hG hS ?_
       refine sp 12 hG hS ?_
       refine sp 13 hG hS ?_
       refine sp 14 hG hS ?_
       refine sp 15 hG hS ?_
       refine sp 16 hG hS ?_
       refine sp 17 hG hS ?_
       refine sp 18 hG hS ?_
       refine sp 19 hG hS ?_
       refine sp 20 hG hS ?_
       refine sp 21 hG hS ?_
       refine sp 22 hG hS ?_
       refine sp 23 hG hS ?_
       refine wpAnyR_done (by kernel_rfl) (fun wz bwz => ?_) _
       have D1 := D.trans ((below_step (Below.drew (Below.refl _ _)) bwz).mono zD)
       clear hS hG bwz g1 g2 g3 g4
       go_wp2_with fail
       go_roundw
       case rel => exact ⟨q + 1, by omega, by simp, D1⟩
       case measure => simp [intOf]; omega
      ·
       obtain rfl : q = outs.length := by omega
       have hlqI : ¬ (outs.length : Int) < (outs.length : Int) := by omega
       have rX13 := (row_below D (by omega)).trans r12
       have c13 := c12.trans (D.mono c12.size)
       have HT13 := Lib.hid (HT12.out.below D)
       have HK13 := Lib.hid (HK12.out.kept (BelowS.of D))
       have lX13 : XB < wr.heap.size := by omega
       clear r12 D HOX HOY
       have HKC := Lib.hid (fun W (h : BrT W A s2) => (show Calls Tryz.prog 16 #[.pointer (some ⟨A.B, 0, none⟩)] W fun e w' => e = .returned (.agg #[.int .i64 x2.c0, .int .i64 x2.c1, .int .i64 x2.c2, .int .i64 x2.c3, .int .i64 x2.c4]) ∧ Below W.heap.size W w' by rw [← HRL2.out.c0, ← HRL2.out.c1, ← HRL2.out.c2, ← HRL2.out.c3, ← HRL2.out.c4]; exact rCounts_any W h))
       have hG : GrowP fun W => BrT W A s2 := grow_br A s2
       have hTT := HT13.out
       have HR := Lib.hid rX13
       unfold refV at rX13
       go_wp2_with fail
       refine wp_region_beginX [(XB, #[Value.slice A2.pa x2.rs.length A2.pcap, Value.int .i64 x2.ageing, Value.slice A2.sa x2.st.length A2.scap, Value.slice A2.ba x2.bi.length A2.bcap, Value.int .i64 x2.c0, Value.int .i64 x2.c1, Value.int .i64 x2.c2, Value.int .i64 x2.c3, Value.int .i64 x2.c4])] (fun W => BrT W A s2) hG rfl (by simp only [Rws]; (repeat (first | exact trivial | refine ⟨(by first | assumption | (simp [go_sem, *]; done)), (by first | omega | (simp; done) | (simp; omega)), ?_⟩))) (hTT) (fun hS => ?_)
       refine sp 0 hG hS ?_
       refine sc 1 (v := ?_) hG hS ?_ ?_
       rotate_left
       ·
        intro w' hS'
        obtain ⟨hS', hX'⟩ := hS'
        simp only [Rws] at hS'
        go_simp
        with_reducible refine (HKC.out _ hX').mono ?_
        rintro e w'' ⟨rfl, hb⟩
        exact ⟨_, rfl, by rfl, hb⟩
       refine sp 2 hG hS ?_
       refine sp 3 hG hS ?_
       refine sp 4 hG hS ?_
       refine sp 5 hG hS ?_
       refine sp 6 hG hS ?_
       refine sp 7 hG hS ?_
       refine sp 8 hG hS ?_
       refine sp 9 hG hS ?_
       refine sp 10 hG hS ?_
       refine sp 11 hG hS ?_
       refine sp 12 hG hS ?_
       refine sp 13 hG hS ?_
       refine sp 14 hG hS ?_
       refine sp 15 hG hS ?_
       refine sp 16 hG hS ?_
       refine sp 17 hG hS ?_
       refine sp 18 hG hS ?_
       refine wpAnyR_done (by kernel_rfl) (fun wz bwz => ?_) _
       have bz := below_step (Below.drew (Below.refl _ _)) bwz
       have HTz := Lib.hid (HT13.out.below bz)
       have HKz := Lib.hid (HK13.out.kept (BelowS.of bz))
       have rXz := (row_below bz lX13).trans HR.out
       have cz := c13.trans (bz.mono c13.size)
       have lXz : XB < wz.heap.size := Nat.lt_of_lt_of_le lX13 bz.size
       clear hS hTT hG bwz bz
       go_wp2_with fail
       go_roundw
       case rel => exact ⟨j + 1, by omega, by simp, s2, x2, A2, HG2.out, HSP2.out, HTz.out, HRL2.out, HKz.out, rXz, cz, lXz⟩
       case measure => simp [intOf]; omega
  ·
   obtain rfl : j = acts.length := by omega
   have hltI : ¬ (acts.length : Int) < (acts.length : Int) := by omega
   go_wp2_with fail
   go_ret
   exact ⟨rfl, cb⟩
end
end Go.Proofs.YtckckabedgpbiaaGreat
