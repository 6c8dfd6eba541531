/- Texts of this proof, merged: RpI, RpJ, RpK. -/
import Derived.Test.YtckckabedgpbiaaGreatJ34
import Derived.Test.YtckckabedgpbiaaGreatRpAJ
import Derived.Test.YtckckabedgpbiaaGreatJ45
import Derived.Test.YtckckabedgpbiaaGreatJ47
import Derived.Test.YtckckabedgpbiaaGreatTwoJ
set_option linter.unusedSimpArgs false
set_option linter.unusedVariables false
set_option maxRecDepth 4000
namespace Go.Proofs.YtckckabedgpbiaaGreat
section
open Go.RowKit Go.Shelf
structure RefA where
 pa : Option Addr
 pcap : Nat
 sa : Option Addr
 scap : Nat
 ba : Option Addr
 bcap : Nat
structure RefS where
 rs : List RPortD
 ageing : Int
 st : List LB
 bi : List HB
 c0 : Int
 c1 : Int
 c2 : Int
 c3 : Int
 c4 : Int
def refV (A : RefA) (x : RefS) : List Value := [.slice A.pa x.rs.length A.pcap, .int .i64 x.ageing, .slice A.sa x.st.length A.scap, .slice A.ba x.bi.length A.bcap, .int .i64 x.c0, .int .i64 x.c1, .int .i64 x.c2, .int .i64 x.c3, .int .i64 x.c4]
structure RefT (w : World) (A : RefA) (x : RefS) : Prop where
 ports : RPortsAt w A.pa x.rs
 st : ElemsAt w A.sa 10 (x.st.map entC)
 bi : ElemsAt w A.ba 9 (x.bi.map bindC)
theorem RefT.below {w w' : World} {A : RefA} {x : RefS} (h : RefT w A x) (hb : Below w.heap.size w w') : RefT w' A x := ⟨h.ports.below hb, h.st.below hb, h.bi.below hb⟩
theorem OwnL.at {w : World} {B : Nat} {e : TypeId} {sz n cap : Nat} {a : Option Addr} {l : List (List Value)} (h : OwnL w B e sz (.slice a n cap) l) : ElemsAt w a sz l := by
 obtain ⟨a', c', e1, h1⟩ := h.elems
 cases e1
 exact h1
theorem OwnL.other {w : World} {B X : Nat} {e : TypeId} {sz : Nat} {v : Value} {l : List (List Value)} (h : OwnL w B e sz v l) (hX : X < B) (c : Array Value) : OwnL (w.setRow X c) B e sz v l :=
 h.keep fun k hk => setRow_block_other _ _ _ (by have := (h.blk hk).1; omega)
def limR (rs : List RPortD) : List (List Value) := rs.map fun r => [Value.int .i64 r.p.lim]
set_option maxRecDepth 20000 in
set_option maxHeartbeats 2000000 in
theorem r22limits_any (A : RefA) (x : RefS) (w : World) (h : RPortsAt w A.pa x.rs) (hn : x.rs.length ≤ 1000) :
  Calls Tryz.prog 42 #[.agg (refV A x).toArray] w fun e w' => (∃ a cap, e = .returned (.slice a x.rs.length cap) ∧ IntsAt w' a (x.rs.map (·.p.lim))) ∧ Below w.heap.size w w' := by
 have hnI : (x.rs.length : Int) ≤ 1000 := by omega
 obtain ⟨pa, pcap, sa, scap, ba, bcap⟩ := A
 unfold refV
 dsimp only at *
 go_enter Tryz.func42, Tryz.ntmps42
 obtain ⟨W, hW⟩ : ∃ W, w.alloc (.cells #[.slice pa x.rs.length pcap, .int .i64 x.ageing, .slice sa x.st.length scap, .slice ba x.bi.length bcap, .int .i64 x.c0, .int .i64 x.c1, .int .i64 x.c2, .int .i64 x.c3, .int .i64 x.c4] 31) = W := ⟨_, rfl⟩
 have bW : Below w.heap.size w W := by rw [← hW]; exact Below.alloc (Below.refl _ _) (Nat.le_refl _) _
 have rB : row W w.heap.size = #[.slice pa x.rs.length pcap, .int .i64 x.ageing, .slice sa x.st.length scap, .slice ba x.bi.length bcap, .int .i64 x.c0, .int .i64 x.c1, .int .i64 x.c2, .int .i64 x.c3, .int .i64 x.c4] := by rw [← hW]; exact row_alloc_at _ _ _ rfl
 have zW : W.heap.size = w.heap.size + 1 := by rw [← hW, alloc_sizeW]
 go_wp2_with fail
 (try rw [hW])
 clear hW
 go_loopw [3, 4] (fun v i wr => ∃ k : Nat, k ≤ x.rs.length ∧ i = .int .i64 k ∧ OwnL wr (w.heap.size + 1) 3 1 v (limR (x.rs.take k)) ∧ Below (w.heap.size + 1) W wr) (fun _ i _ => x.rs.length - (intOf i).toNat)
 case atStart => exact ⟨0, by omega, rfl, by rw [List.take_zero]; exact OwnL.nil _ _ _ _, Below.refl _ _⟩
 case round =>
  obtain ⟨k, hk, rfl, hown, D⟩ := hrel
  have rBr := (row_below D (by omega)).trans rB
  have zr := D.size
  by_cases hlt : k < x.rs.length
  ·
   have hkI : (k : Int) < (x.rs.length : Int) := by omega
   obtain ⟨pb, po, ta, tc, rfl, hpb, hrd⟩ := h.get hlt
   have g3 : wr.cell? ⟨pb, po + k * 5 + 3, none⟩ = some (.int .i64 x.rs[k].p.lim) := (hrd wr (bW.trans (D.mono (Nat.le_succ _)))).1 3 _ rfl
   obtain ⟨lim, hlim⟩ : ∃ y, x.rs[k].p.lim = y := ⟨_, rfl⟩
   rw [hlim] at g3
   have HTK := Lib.hid (show limR (x.rs.take (k + 1)) = limR (x.rs.take k) ++ [[Value.int .i64 lim]] by unfold limR; rw [take_map_snoc hlt, hlim])
   have HL10 := Lib.hid (show (limR (x.rs.take k)).length ≤ 10000 by unfold limR; rw [List.length_map, List.length_take]; omega)
   clear hrd hlim
   go_wp2_with (at_builtin; refine wpList_appendL rfl rfl Tryz.underlying57 intsInfo2 (by decide) (by decide) (w.heap.size + 1) _ _ rfl hown [Value.int .i64 lim] rfl rfl rfl HL10.out (by omega) ?_)
   intro v' w4 o4 b4 f4
   go_wp2_with fail
   go_roundw
   case rel => exact ⟨k + 1, by omega, by simp, by rw [HTK.out]; exact o4, D.trans b4⟩
   case measure => simp [intOf]; omega
  ·
   obtain rfl : k = x.rs.length := by omega
   have hkI : ¬ (x.rs.length : Int) < (x.rs.length : Int) := by omega
   rw [List.take_of_length_le (Nat.le_refl _)] at hown
   obtain ⟨oa, oc, oe, hE⟩ := hown.elems
   rw [limR, List.length_map] at oe
   have HE := Lib.hid hE
   subst oe
   clear hown hE
   go_wp2_with fail
   go_ret
   refine ⟨⟨_, ⟨_, rfl⟩, ?_⟩, bW.trans (D.mono (Nat.le_succ _))⟩
   show ElemsAt _ _ 1 _
   rw [List.map_map]
   exact HE.out
set_option maxRecDepth 20000 in
set_option maxHeartbeats 2000000 in
theorem r22Tick_any (A : RefA) (x : RefS) (w : World) (h : RefT w A x) (hs : x.st.length ≤ 1000) (hb : x.bi.length ≤ 1024) (hage : ∀ c ∈ x.st, 0 ≤ c.age ∧ c.age ≤ 1000000) (hageh : ∀ c ∈ x.bi, 0 ≤ c.age ∧ c.age ≤ 1000000) :
  Calls Tryz.prog 11 #[.agg (refV A x).toArray] w fun e w' => (∃ A', A'.pa = A.pa ∧ e = .returned (.agg (refV A' { x with st := tickL x.ageing x.st, bi := tickH x.ageing x.bi }).toArray) ∧ RefT w' A' { x with st := tickL x.ageing x.st, bi := tickH x.ageing x.bi }) ∧ Below w.heap.size w w' := by
 have HO := Lib.hid (fun w (h : ElemsAt w A.sa 10 (x.st.map entC)) => r20Older_any x.ageing x.st A.sa A.scap w h hs hage)
 have HH := Lib.hid (fun w (h : ElemsAt w A.ba 9 (x.bi.map bindC)) => older_any x.ageing x.bi A.ba A.bcap w h hb hageh)
 unfold refV
 go_enter Tryz.func11, Tryz.ntmps11
 obtain ⟨W, hW⟩ : ∃ W, (w.alloc (.cells #[.slice A.pa x.rs.length A.pcap, .int .i64 x.ageing, .slice A.sa x.st.length A.scap, .slice A.ba x.bi.length A.bcap, .int .i64 x.c0, .int .i64 x.c1, .int .i64 x.c2, .int .i64 x.c3, .int .i64 x.c4] 31)).alloc (.cells (Value.slice none 0 0 :: Value.int .i64 0 :: (zeros 2 (Value.slice none 0 0) ++ zeros 5 (Value.int .i64 0))).toArray 31) = W := ⟨_, rfl⟩
 have bW : Below w.heap.size w W := by rw [← hW]; exact Below.alloc (Below.alloc (Below.refl _ _) (Nat.le_refl _) _) (by simp) _
 have rB : row W w.heap.size = #[.slice A.pa x.rs.length A.pcap, .int .i64 x.ageing, .slice A.sa x.st.length A.scap, .slice A.ba x.bi.length A.bcap, .int .i64 x.c0, .int .i64 x.c1, .int .i64 x.c2, .int .i64 x.c3, .int .i64 x.c4] := by rw [← hW]; simp [go_sem]
 have rR : row W (w.heap.size + 1) = (Value.slice none 0 0 :: Value.int .i64 0 :: (zeros 2 (Value.slice none 0 0) ++ zeros 5 (Value.int .i64 0))).toArray := by rw [← hW]; simp [go_sem]
 have zW : W.heap.size = w.heap.size + 2 := by rw [← hW, alloc_sizeW, alloc_sizeW]
 have h1 := h.below bW
 go_wp2_with fail
 (try rw [hW])
 clear hW
 (with_reducible refine (HO.out _ h1.st).mono ?_)
 rintro e w1 ⟨v1, rfl, o1, b1⟩
 obtain ⟨sa1, sc1, rfl, e1⟩ := o1.elems
 rw [List.length_map]
 have rB1 := (row_below b1 (by omega)).trans rB
 have rR1 := (row_below b1 (by omega)).trans rR
 have z1 := b1.size
 obtain ⟨w2, hw2⟩ : ∃ y, w1.setRow w.heap.size #[.slice A.pa x.rs.length A.pcap, .int .i64 x.ageing, .slice sa1 (tickL x.ageing x.st).length sc1, .slice A.ba x.bi.length A.bcap, .int .i64 x.c0, .int .i64 x.c1, .int .i64 x.c2, .int .i64 x.c3, .int .i64 x.c4] = y := ⟨_, rfl⟩
 have rB2 : row w2 w.heap.size = #[.slice A.pa x.rs.length A.pcap, .int .i64 x.ageing, .slice sa1 (tickL x.ageing x.st).length sc1, .slice A.ba x.bi.length A.bcap, .int .i64 x.c0, .int .i64 x.c1, .int .i64 x.c2, .int .i64 x.c3, .int .i64 x.c4] := by rw [← hw2]; exact row_setRow_same (by rw [rB1]; simp) (by rw [rB1]; rfl)
 have rR2 : row w2 (w.heap.size + 1) = (Value.slice none 0 0 :: Value.int .i64 0 :: (zeros 2 (Value.slice none 0 0) ++ zeros 5 (Value.int .i64 0))).toArray := by rw [← hw2, row_setRow_other _ _ _ (by omega)]; exact rR1
 have z2 : w2.heap.size = w1.heap.size := by rw [← hw2, setRow_size]
 have b2 : Below w.heap.size w w2 := by rw [← hw2]; exact Below.setRow (bW.trans (b1.mono bW.size)) (Nat.le_refl _) _
 have hbi2 := h.bi.below b2
 have o12 := o1.other (X := w.heap.size) (by omega) #[.slice A.pa x.rs.length A.pcap, .int .i64 x.ageing, .slice sa1 (tickL x.ageing x.st).length sc1, .slice A.ba x.bi.length A.bcap, .int .i64 x.c0, .int .i64 x.c1, .int .i64 x.c2, .int .i64 x.c3, .int .i64 x.c4]
 rw [hw2] at o12
 go_wp2_with fail
 (try rw [hw2])
 clear hw2
 (with_reducible refine (HH.out _ hbi2).mono ?_)
 rintro e w3 ⟨v3, rfl, o3, b3⟩
 obtain ⟨ba1, bc1, rfl, e3⟩ := o3.elems
 rw [List.length_map]
 have rB3 := (row_below b3 (by omega)).trans rB2
 have rR3 := (row_below b3 (by omega)).trans rR2
 have z3 := b3.size
 obtain ⟨w4, hw4⟩ : ∃ y, w3.setRow w.heap.size #[.slice A.pa x.rs.length A.pcap, .int .i64 x.ageing, .slice sa1 (tickL x.ageing x.st).length sc1, .slice ba1 (tickH x.ageing x.bi).length bc1, .int .i64 x.c0, .int .i64 x.c1, .int .i64 x.c2, .int .i64 x.c3, .int .i64 x.c4] = y := ⟨_, rfl⟩
 have rB4 : row w4 w.heap.size = #[.slice A.pa x.rs.length A.pcap, .int .i64 x.ageing, .slice sa1 (tickL x.ageing x.st).length sc1, .slice ba1 (tickH x.ageing x.bi).length bc1, .int .i64 x.c0, .int .i64 x.c1, .int .i64 x.c2, .int .i64 x.c3, .int .i64 x.c4] := by rw [← hw4]; exact row_setRow_same (by rw [rB3]; simp) (by rw [rB3]; rfl)
 have rR4 : row w4 (w.heap.size + 1) = (Value.slice none 0 0 :: Value.int .i64 0 :: (zeros 2 (Value.slice none 0 0) ++ zeros 5 (Value.int .i64 0))).toArray := by rw [← hw4, row_setRow_other _ _ _ (by omega)]; exact rR3
 have z4 : w4.heap.size = w3.heap.size := by rw [← hw4, setRow_size]
 have b4 : Below w.heap.size w w4 := by rw [← hw4]; exact Below.setRow (b2.trans (b3.mono b2.size)) (Nat.le_refl _) _
 have o34 := o3.other (X := w.heap.size) (by omega) #[.slice A.pa x.rs.length A.pcap, .int .i64 x.ageing, .slice sa1 (tickL x.ageing x.st).length sc1, .slice ba1 (tickH x.ageing x.bi).length bc1, .int .i64 x.c0, .int .i64 x.c1, .int .i64 x.c2, .int .i64 x.c3, .int .i64 x.c4]
 rw [hw4] at o34
 have o14 := (o12.below b3).other (X := w.heap.size) (by omega) #[.slice A.pa x.rs.length A.pcap, .int .i64 x.ageing, .slice sa1 (tickL x.ageing x.st).length sc1, .slice ba1 (tickH x.ageing x.bi).length bc1, .int .i64 x.c0, .int .i64 x.c1, .int .i64 x.c2, .int .i64 x.c3, .int .i64 x.c4]
 rw [hw4] at o14
 go_wp2_with fail
 (try rw [hw4])
 clear hw4
 go_wp2_with fail
 have hfin := row_setRow_same (w := w4) (g := w.heap.size + 1) (c := #[.slice A.pa x.rs.length A.pcap, .int .i64 x.ageing, .slice sa1 (tickL x.ageing x.st).length sc1, .slice ba1 (tickH x.ageing x.bi).length bc1, .int .i64 x.c0, .int .i64 x.c1, .int .i64 x.c2, .int .i64 x.c3, .int .i64 x.c4]) (by rw [rR4]; simp) (by rw [rR4]; simp)
 refine bodyPost_ret (results_1 rfl (resOk_row rfl ?_)) rfl ?_
 ·
  rw [hfin]; rfl
 have bf := Below.setRow (g := w.heap.size + 1) b4 (Nat.le_succ _) (#[.slice A.pa x.rs.length A.pcap, .int .i64 x.ageing, .slice sa1 (tickL x.ageing x.st).length sc1, .slice ba1 (tickH x.ageing x.bi).length bc1, .int .i64 x.c0, .int .i64 x.c1, .int .i64 x.c2, .int .i64 x.c3, .int .i64 x.c4])
 exact ⟨⟨⟨A.pa, A.pcap, sa1, sc1, ba1, bc1⟩, rfl, by rw [hfin], h.ports.below bf, (o14.other (by omega) _).at, (o34.other (by omega) _).at⟩, bf⟩
end
section
open Go.RowKit Go.Shelf
theorem flatten_at {sz : Nat} {l : List (List Value)} (hl : ∀ x ∈ l, x.length = sz) {j : Nat} {y : Value} (h : l.flatten[j]? = some y) : ∃ i r x, j = i * sz + r ∧ l[i]? = some x ∧ x[r]? = some y := by
 induction l generalizing j with
 | nil => simp at h
 | cons z l ih =>
  rw [List.flatten_cons] at h
  rcases Nat.lt_or_ge j z.length with hj | hj
  ·
   rw [List.getElem?_append_left hj] at h
   exact ⟨0, j, z, by simp, rfl, h⟩
  ·
   rw [List.getElem?_append_right hj] at h
   obtain ⟨i, r, x, e, h1, h2⟩ := ih (fun x hx => hl x (by simp [hx])) h
   have hz := hl z (by simp)
   exact ⟨i + 1, r, x, by rw [Nat.succ_mul]; omega, h1, h2⟩
theorem flat_lenS {sz : Nat} : ∀ {l : List (List Value)}, (∀ x ∈ l, x.length = sz) → l.flatten.length = l.length * sz
 | [], _ => by simp
 | y :: l, h => by rw [List.flatten_cons, List.length_append, h y (by simp), flat_lenS (fun y hy => h y (by simp [hy])), List.length_cons, Nat.succ_mul]; omega
theorem flat_set {sz q : Nat} (hq : q < sz) (u : Value) : ∀ {l : List (List Value)} {k : Nat}, (∀ x ∈ l, x.length = sz) → k < l.length → (l.modify k fun x => x.set q u).flatten = l.flatten.set (k * sz + q) u
 | [], k, _, h => by simp at h
 | y :: l, 0, h, _ => by
  have := h y (by simp)
  rw [List.modify_zero_cons, List.flatten_cons, List.flatten_cons, List.set_append_left _ _ (by omega)]
  simp
 | y :: l, k + 1, h, hk => by
  have := h y (by simp)
  rw [List.modify_succ_cons, List.flatten_cons, List.flatten_cons, flat_set hq u (fun x hx => h x (by simp [hx])) (by simpa using hk), List.set_append_right _ _ (by rw [Nat.succ_mul]; omega), this, show (k + 1) * sz + q - sz = k * sz + q by rw [Nat.succ_mul]; omega]
section
variable {P : Program}
theorem wpList_appendAt {w : World} {ops : Array Oper} {rest : List Oper} {o : Oper} {a : Act} {Q : Exit → Act → World → Prop} (hgd : o.guard = none) {s x : Operand} {t e : TypeId} {sz bytes : Nat}
  (ho : o.op = .call { callee := .builtin .append, args := #[s, x], argTypes := #[t, t] }) (ht : P.underlying t = some (.slice e))
  (hinfo : (P.info? e).map (fun i => (i.zero.map (·.cells.size), i.size, i.bytes)) = some (some sz, sz, bytes)) (hsz : 0 < sz) (hby : bytes ≤ 1000)
  (base : Nat) (v : Value) (l : List (List Value)) (hs : a.eval s = v) (hown : OwnL w base e sz v l)
  (ad : Addr) (cap : Nat) (l2 : List (List Value)) (hx : a.eval x = .slice (some ad) l2.length cap) (hl2 : ∀ y ∈ l2, y.length = sz) (hat : ElemsAt w (some ad) sz l2) (hne : l2 ≠ []) (hone : ∀ y ∈ l2, ones y = true) (hn : l.length + l2.length ≤ 10000) (hbase : base ≤ w.heap.size)
  (h : ∀ v' w', OwnL w' base e sz v' (l ++ l2) → Below base w w' → wpList P ops Q rest (a.put o.dst v') w') :
  wpList P ops Q (o :: rest) a w := by
 have hi : ∃ i z, P.info? e = some i ∧ i.zero = some z ∧ i.size = sz ∧ i.bytes = bytes ∧ z.cells.size = sz := by
  cases hi : P.info? e with
  | none => rw [hi] at hinfo; simp at hinfo
  | some i =>
   rw [hi] at hinfo
   simp at hinfo
   obtain ⟨⟨z, h1, h2⟩, h3, h4⟩ := hinfo
   exact ⟨i, z, rfl, h1, h3, h4, h2⟩
 obtain ⟨i0, z, hi, hz, h32, hb32, hzs⟩ := hi
 obtain ⟨hl, hown⟩ := hown
 have hfl : l2.flatten.length = l2.length * sz := flat_lenS hl2
 refine wpList_append_own (P := P) _ hgd s x _ ho base e i0 z sz bytes ht hi hz h32 hb32 hzs hsz v l.length l.flatten hs hown ad l2.length cap l2.flatten hx hfl ?_ ?_ ?_ ?_ hbase ?_
 ·
  intro j y hj
  obtain ⟨i, r, x2, rfl, h1, h2⟩ := flatten_at hl2 hj
  obtain ⟨b, off, e1, hb, hra⟩ := hat.2 i x2 h1
  cases e1
  have h3 := hra w rfl r y h2
  rw [addr_add]
  rw [← h3]
  congr 2
  omega
 ·
  intro y hy
  obtain ⟨q, hq, hyq⟩ := List.mem_flatten.1 hy
  have := hone q hq
  unfold ones at this
  exact List.all_eq_true.1 this y hyq
 ·
  unfold maxLen; omega
 ·
  have := Nat.mul_le_mul (show l.length + l2.length ≤ 10000 by omega) hby; omega
 ·
  intro v' w' h1 h2 _
  refine h v' w' ⟨?_, ?_⟩ ((Below.refl base w).grown h2 (by omega) fun k hk => (World.ownsRow.lt hown k hk).1)
  ·
   intro y hy
   rcases List.mem_append.1 hy with hy | hy
   ·
    exact hl y hy
   ·
    exact hl2 y hy
  ·
   rw [List.length_append, List.flatten_append]
   exact h1
end
def RRowsQ (Q : Option Addr → List Int → Prop) (rows : List (List Value)) (rs : List RPortD) : Prop := rows.length = rs.length ∧ ∀ (i : Nat) (r : RPortD), rs[i]? = some r → ∃ ta tc, rows[i]? = some (rportV ta tc r) ∧ Q ta r.p.tagged
abbrev RRows (w : World) (rows : List (List Value)) (rs : List RPortD) : Prop := RRowsQ (IntsAt w) rows rs
theorem RRowsQ.below {w w' : World} {rows : List (List Value)} {rs : List RPortD} (h : RRows w rows rs) (hb : Below w.heap.size w w') : RRows w' rows rs :=
 ⟨h.1, fun i r hr => by obtain ⟨ta, tc, e, hi⟩ := h.2 i r hr; exact ⟨ta, tc, e, hi.below hb⟩⟩
theorem RRowsQ.lens {Q : Option Addr → List Int → Prop} {rows : List (List Value)} {rs : List RPortD} (h : RRowsQ Q rows rs) : ∀ x ∈ rows, x.length = 5 ∧ ones x = true := by
 intro x hx
 obtain ⟨i, hi, rfl⟩ := List.getElem_of_mem hx
 have hi2 : i < rs.length := by rw [← h.1]; exact hi
 obtain ⟨ta, tc, e, _⟩ := h.2 i rs[i] (List.getElem?_eq_getElem hi2)
 rw [List.getElem?_eq_getElem hi] at e
 rw [Option.some.inj e]
 exact ⟨rfl, by simp [rportV]⟩
theorem RPortsAt.rows {w : World} {pa : Option Addr} {rs : List RPortD} (h : RPortsAt w pa rs) : ∃ rows, ElemsAt w pa 5 rows ∧ RRows w rows rs := by
 have hc : ∀ i : Nat, ∃ x : List Value, ∀ r, rs[i]? = some r → ∃ b off ta tc, pa = some ⟨b, off, none⟩ ∧ b < w.heap.size ∧ (∀ W, blk W b = blk w b → W.rangeAt b (off + i * 5) x) ∧ x = rportV ta tc r ∧ IntsAt w ta r.p.tagged := by
  intro i
  cases hr : rs[i]? with
  | none => exact ⟨[], fun r h => by cases h⟩
  | some r =>
   obtain ⟨b, off, ta, tc, e, hl, hra, ht⟩ := h.2 i r hr
   exact ⟨rportV ta tc r, fun r' h' => by cases h'; exact ⟨b, off, ta, tc, e, hl, hra, rfl, ht⟩⟩
 refine ⟨(List.range rs.length).map fun i => Classical.choose (hc i), ⟨by simpa using h.1, fun i x hx => ?_⟩, by simp, fun i r hr => ?_⟩
 ·
  have hi : i < rs.length := by
   have := (List.getElem?_eq_some_iff.1 hx).1
   simpa using this
  rw [List.getElem?_map, List.getElem?_range hi] at hx
  simp only [Option.map_some, Option.some.injEq] at hx
  subst hx
  obtain ⟨b, off, ta, tc, e, hl, hra, _, _⟩ := Classical.choose_spec (hc i) rs[i] (List.getElem?_eq_getElem hi)
  exact ⟨b, off, e, hl, hra⟩
 ·
  have hi : i < rs.length := (List.getElem?_eq_some_iff.1 hr).1
  obtain ⟨b, off, ta, tc, e, hl, hra, h1, h2⟩ := Classical.choose_spec (hc i) r hr
  exact ⟨ta, tc, by rw [List.getElem?_map, List.getElem?_range hi]; simp only [Option.map_some]; rw [h1], h2⟩
theorem RRowsQ.at {w : World} {pa : Option Addr} {rows : List (List Value)} {rs : List RPortD} (h : RRows w rows rs) (he : ElemsAt w pa 5 rows) : RPortsAt w pa rs := by
 refine ⟨by rw [← h.1]; exact he.1, fun i r hr => ?_⟩
 obtain ⟨ta, tc, e, hi⟩ := h.2 i r hr
 obtain ⟨b, off, e1, hb, hra⟩ := he.2 i _ e
 exact ⟨b, off, ta, tc, e1, hb, hra, hi⟩
theorem RRowsQ.off {S : List Nat} {w : World} {pa : Option Addr} {rows : List (List Value)} {rs : List RPortD} (h : RRows w rows rs) (he : ElemsAt w pa 5 rows) (hS : RPortsOff S w pa rs) : RRowsQ (fun ta l => ElemsOff S w ta 1 (l.map fun v => [Value.int .i64 v])) rows rs := by
 refine ⟨h.1, fun i r hr => ?_⟩
 obtain ⟨ta, tc, e, hi⟩ := h.2 i r hr
 obtain ⟨b, off, e1, _, hra⟩ := he.2 i _ e
 obtain ⟨b', off', ta', tc', e2, _, hrb, ht⟩ := hS.2 i r hr
 rw [e1] at e2
 cases e2
 have c1 := hra w rfl 1 _ rfl
 have c2 := hrb w rfl 1 _ rfl
 rw [c1] at c2
 simp only [Option.some.injEq, Value.slice.injEq] at c2
 obtain ⟨rfl, _, rfl⟩ := c2
 exact ⟨ta, tc, e, ht⟩
theorem RRowsQ.ports {S : List Nat} {w : World} {pa : Option Addr} {rows : List (List Value)} {rs : List RPortD} (h : RRowsQ (fun ta l => ElemsOff S w ta 1 (l.map fun v => [Value.int .i64 v])) rows rs) (he : ElemsAt w pa 5 rows) : RPortsOff S w pa rs := by
 refine ⟨by rw [← h.1]; exact he.1, fun i r hr => ?_⟩
 obtain ⟨ta, tc, e, hi⟩ := h.2 i r hr
 obtain ⟨b, off, e1, hb, hra⟩ := he.2 i _ e
 exact ⟨b, off, ta, tc, e1, hb, hra, hi⟩
theorem RRowsQ.kept {S : List Nat} {w w' : World} {rows : List (List Value)} {rs : List RPortD} (h : RRowsQ (fun ta l => ElemsOff S w ta 1 (l.map fun v => [Value.int .i64 v])) rows rs) (hb : Below w.heap.size w w') : RRowsQ (fun ta l => ElemsOff S w' ta 1 (l.map fun v => [Value.int .i64 v])) rows rs :=
 ⟨h.1, fun i r hr => by obtain ⟨ta, tc, e, hi⟩ := h.2 i r hr; exact ⟨ta, tc, e, hi.below hb⟩⟩
def setR (rs : List RPortD) (k : Nat) (state : Int) : List RPortD := rs.modify k fun r => { r with state := state }
@[simp] theorem setR_length (rs : List RPortD) (k : Nat) (state : Int) : (setR rs k state).length = rs.length := by simp [setR]
theorem RRowsQ.set {Q : Option Addr → List Int → Prop} {rows : List (List Value)} {rs : List RPortD} (h : RRowsQ Q rows rs) {k : Nat} (hk : k < rs.length) (state : Int) : RRowsQ Q (rows.modify k fun x => x.set 4 (.int .i64 state)) (setR rs k state) := by
 refine ⟨by simp [h.1], fun i r hr => ?_⟩
 unfold setR at hr
 rw [List.getElem?_modify] at hr ⊢
 cases h0 : rs[i]? with
 | none => rw [h0] at hr; simp at hr
 | some r0 =>
  obtain ⟨ta, tc, e, hi⟩ := h.2 i r0 h0
  rw [h0] at hr
  rw [e]
  by_cases hik : k = i
  ·
   simp [hik] at hr ⊢
   subst hr
   exact ⟨ta, ⟨tc, rfl⟩, hi⟩
  ·
   simp [hik] at hr ⊢
   subst hr
   exact ⟨ta, ⟨tc, rfl⟩, hi⟩
def stateR (x : RefS) (k : Nat) (state : Int) : RefS := { x with rs := setR x.rs k state, st := if state = 0 then dropL k x.st else x.st }
theorem rportInfo : (Tryz.prog.info? 71).map (fun i => (i.zero.map (·.cells.size), i.size, i.bytes)) = some (some 5, 5, 56) := by kernel_rfl
theorem OwnL.setCell {w : World} {B : Nat} {e : TypeId} {sz : Nat} {v : Value} {l : List (List Value)} (h : OwnL w B e sz v l) {k q : Nat} (hk : k < l.length) (hq : q < sz) (u : Value) :
  ∃ g cap cur, v = .slice (some ⟨g, 0, none⟩) l.length cap ∧ B ≤ g ∧ g < w.heap.size ∧ row w g = cur ∧ k * sz + q < cur.size ∧ OwnL (w.setRow g (cur.setIfInBounds (k * sz + q) u)) B e sz v (l.modify k fun x => x.set q u) := by
 have hlt := fun g (hg : v.ownBlock = some g) => (h.blk hg).2.1
 obtain ⟨hl, hlen, ⟨rfl, h0⟩ | ⟨g, cap, cur, rfl, hg0, hg, hnc, hm, hcs, htk⟩⟩ := h
 ·
  omega
 ·
  have hrow : row w g = cur := by
   unfold row
   rw [hg]
   simp
  have hb : k * sz + q < cur.size := by
   rw [hcs]
   have : (k + 1) * sz ≤ cap * sz := Nat.mul_le_mul_right _ (by omega)
   rw [Nat.succ_mul] at this
   omega
  have hl2 : ∀ y ∈ l.modify k (fun x => x.set q u), y.length = sz := by
   intro y hy
   obtain ⟨i, hi, rfl⟩ := List.getElem_of_mem hy
   rw [List.getElem_modify]
   have := hl (l[i]'(by simpa using hi)) (List.getElem_mem _)
   split
   ·
    simpa using this
   ·
    exact this
  refine ⟨g, cap, cur, rfl, hg0, hlt g rfl, hrow, hb, hl2, flat_lenS hl2, .inr ⟨g, cap, cur.setIfInBounds (k * sz + q) u, by simp, hg0, setRow_heap w g cur _ e _ hg, by simpa using hnc, hm, by simpa using hcs, ?_⟩⟩
  rw [List.length_modify, flat_set hq u hl hk, ← htk, Array.toList_setIfInBounds, List.take_set]
set_option maxRecDepth 20000 in
set_option maxHeartbeats 2000000 in
theorem r22State_any (A : RefA) (x : RefS) (k : Nat) (state : Int) (w : World) (h : RefT w A x) (hk : k < x.rs.length) (hn : x.rs.length ≤ 1000) (hs : x.st.length ≤ 1000) :
  Calls Tryz.prog 13 #[.agg (refV A x).toArray, .int .i64 (k : Int), .int .i64 state] w fun e w' => (∃ A', e = .returned (.agg (refV A' (stateR x k state)).toArray) ∧ RefT w' A' (stateR x k state) ∧ ∀ S, RPortsOff S w A.pa x.rs → RPortsOff S w' A'.pa (setR x.rs k state)) ∧ Below w.heap.size w w' := by
 have HW := Lib.hid (fun w (h : ElemsAt w A.sa 10 (x.st.map entC)) => r20Without_any (k : Int) x.st A.sa A.scap w h hs (by omega))
 have hkI : (k : Int) < (x.rs.length : Int) := by omega
 have hk0 : (0 : Int) ≤ (k : Int) := by omega
 have hrl0 : (x.rs.length : Int) ≤ 1000 := by omega
 obtain ⟨pa, pcap, sa, scap, ba, bcap⟩ := A
 obtain ⟨hports, hst, hbi⟩ := h
 dsimp only at hports hst hbi HW
 obtain ⟨pb, po, pta, ptc, rfl, _⟩ := hports.get hk
 obtain ⟨rows, hrows, hR⟩ := hports.rows
 have hrl := hR.1
 have HRL := Lib.hid hrl
 have HR0 := Lib.hid hR
 have HRW0 := Lib.hid hrows
 have hne : rows ≠ [] := by intro e; rw [e] at hrl; simp at hrl; omega
 unfold refV
 dsimp only
 go_enter Tryz.func13, Tryz.ntmps13
 obtain ⟨W, hW⟩ : ∃ W, (w.alloc (.cells #[.slice (some ⟨pb, po, none⟩) x.rs.length pcap, .int .i64 x.ageing, .slice sa x.st.length scap, .slice ba x.bi.length bcap, .int .i64 x.c0, .int .i64 x.c1, .int .i64 x.c2, .int .i64 x.c3, .int .i64 x.c4] 31)).alloc (.cells (Value.slice none 0 0 :: Value.int .i64 0 :: (zeros 2 (Value.slice none 0 0) ++ zeros 5 (Value.int .i64 0))).toArray 31) = W := ⟨_, rfl⟩
 have bW : Below w.heap.size w W := by rw [← hW]; exact Below.alloc (Below.alloc (Below.refl _ _) (Nat.le_refl _) _) (by simp) _
 have rB : row W w.heap.size = #[.slice (some ⟨pb, po, none⟩) x.rs.length pcap, .int .i64 x.ageing, .slice sa x.st.length scap, .slice ba x.bi.length bcap, .int .i64 x.c0, .int .i64 x.c1, .int .i64 x.c2, .int .i64 x.c3, .int .i64 x.c4] := by rw [← hW]; simp [go_sem]
 have rR : row W (w.heap.size + 1) = (Value.slice none 0 0 :: Value.int .i64 0 :: (zeros 2 (Value.slice none 0 0) ++ zeros 5 (Value.int .i64 0))).toArray := by rw [← hW]; simp [go_sem]
 have zW : W.heap.size = w.heap.size + 2 := by rw [← hW, alloc_sizeW, alloc_sizeW]
 have hrows1 := hrows.below bW
 have hR1 := Lib.hid (hR.below bW)
 obtain ⟨X, hX⟩ : ∃ y, W.alloc (.cells #[] 71) = y := ⟨_, rfl⟩
 have bX : Below W.heap.size W X := by rw [← hX]; exact Below.alloc (Below.refl _ _) (Nat.le_refl _) _
 have zX : X.heap.size = w.heap.size + 3 := by rw [← hX, alloc_sizeW, zW]
 have oX : OwnL X W.heap.size 71 5 (.slice (some ⟨W.heap.size, 0, none⟩) 0 0) [] := by rw [← hX]; exact ⟨by simp, by simp, .inr ⟨W.heap.size, 0, #[], rfl, Nat.le_refl _, heap_alloc_new W _, Nat.le_refl _, by unfold maxLen; omega, by simp, by simp⟩⟩
 have zWX := bX.size
 have rBX := (row_below bX (by omega)).trans rB
 have rRX := (row_below bX (by omega)).trans rR
 have hrows2 := hrows1.below bX
 have HR2 := Lib.hid (hR1.out.below bX)
 have HZX := Lib.hid zX
 have HZW := Lib.hid zW
 clear hR hR1 hrows hrows1 rB rR hrl zX zW
 go_wp2_with (at_builtin; go_loud ((try rw [hX]); refine wpList_appendAt (bytes := 56) rfl rfl Tryz.underlying22 rportInfo (by decide) (by decide) W.heap.size _ [] rfl oX _ pcap rows (by rw [HRL.out]; rfl) (fun y hy => (HR2.out.lens y hy).1) hrows2 hne (fun y hy => (HR2.out.lens y hy).2) (by rw [HRL.out]; simp; omega) zWX ?_))
 intro v1 w1 o1 b1
 have zX2 := bX.size
 have rB1 := (row_below b1 (by rw [HZW.out]; omega)).trans rBX
 have rR1 := (row_below b1 (by rw [HZW.out]; omega)).trans rRX
 have z1 := b1.size
 have bw1 : Below w.heap.size w w1 := bW.trans ((bX.mono bW.size).trans (b1.mono bW.size))
 obtain ⟨g, gcap, cur, rfl, hgB, hgz, hcur, hci, _⟩ := o1.setCell (k := k) (q := 4) (by rw [HRL.out]; exact hk) (by decide) (.int .i64 state)
 rw [HZW.out] at hgB
 rw [HRL.out]
 have zB1 : w.heap.size + 2 < w1.heap.size := by omega
 obtain ⟨w2, hw2⟩ : ∃ y, w1.setRow w.heap.size #[.slice (some ⟨g, 0, none⟩) x.rs.length gcap, .int .i64 x.ageing, .slice sa x.st.length scap, .slice ba x.bi.length bcap, .int .i64 x.c0, .int .i64 x.c1, .int .i64 x.c2, .int .i64 x.c3, .int .i64 x.c4] = y := ⟨_, rfl⟩
 have rB2 : row w2 w.heap.size = #[.slice (some ⟨g, 0, none⟩) x.rs.length gcap, .int .i64 x.ageing, .slice sa x.st.length scap, .slice ba x.bi.length bcap, .int .i64 x.c0, .int .i64 x.c1, .int .i64 x.c2, .int .i64 x.c3, .int .i64 x.c4] := by rw [← hw2]; exact row_setRow_same (by rw [rB1]; simp) (by rw [rB1]; rfl)
 have rR2 : row w2 (w.heap.size + 1) = (Value.slice none 0 0 :: Value.int .i64 0 :: (zeros 2 (Value.slice none 0 0) ++ zeros 5 (Value.int .i64 0))).toArray := by rw [← hw2, row_setRow_other _ _ _ (by omega)]; exact rR1
 have z2 : w2.heap.size = w1.heap.size := by rw [← hw2, setRow_size]
 have o12 := o1.other (X := w.heap.size) (by rw [HZW.out]; omega) #[.slice (some ⟨g, 0, none⟩) x.rs.length gcap, .int .i64 x.ageing, .slice sa x.st.length scap, .slice ba x.bi.length bcap, .int .i64 x.c0, .int .i64 x.c1, .int .i64 x.c2, .int .i64 x.c3, .int .i64 x.c4]
 rw [hw2] at o12
 have b2 : Below w.heap.size w w2 := by rw [← hw2]; exact Below.setRow bw1 (Nat.le_refl _) _
 have hcur2 : row w2 g = cur := by rw [← hw2, row_setRow_other _ _ _ (by omega)]; exact hcur
 obtain ⟨w3, hw3⟩ : ∃ y, w2.setRow g (cur.setIfInBounds (k * 5 + 4) (.int .i64 state)) = y := ⟨_, rfl⟩
 have rB3 : row w3 w.heap.size = #[.slice (some ⟨g, 0, none⟩) x.rs.length gcap, .int .i64 x.ageing, .slice sa x.st.length scap, .slice ba x.bi.length bcap, .int .i64 x.c0, .int .i64 x.c1, .int .i64 x.c2, .int .i64 x.c3, .int .i64 x.c4] := by rw [← hw3, row_setRow_other _ _ _ (by omega)]; exact rB2
 have rR3 : row w3 (w.heap.size + 1) = (Value.slice none 0 0 :: Value.int .i64 0 :: (zeros 2 (Value.slice none 0 0) ++ zeros 5 (Value.int .i64 0))).toArray := by rw [← hw3, row_setRow_other _ _ _ (by omega)]; exact rR2
 have z3 : w3.heap.size = w2.heap.size := by rw [← hw3, setRow_size]
 have b3 : Below w.heap.size w w3 := by rw [← hw3]; exact Below.setRow b2 (by omega) _
 obtain ⟨g', gc', cur', e', _, _, hcr', _, o3⟩ := o12.setCell (k := k) (q := 4) (by rw [HRL.out]; exact hk) (by decide) (.int .i64 state)
 simp only [Value.slice.injEq, Option.some.injEq, Addr.mk.injEq, and_true, true_and] at e'
 obtain ⟨rfl, rfl⟩ := e'
 obtain rfl : cur = cur' := hcur2.symm.trans hcr'
 rw [hw3] at o3
 have hst3 := hst.below b3
 have O3 := Lib.hid o3
 have hcell : w2.setCell ⟨g, k * 5 + 4, none⟩ (.int .i64 state) = w3 := by rw [setCell_row _ (by rw [hcur2]; omega), hcur2]; exact hw3
 have HC3 := Lib.hid hcell
 clear hcell
 have HPO := Lib.hid (fun S (hS : RPortsOff S w (some ⟨pb, po, none⟩) x.rs) wf (hb : Below w.heap.size w wf) (he : ElemsAt wf (some ⟨g, 0, none⟩) 5 (rows.modify k fun y => y.set 4 (.int .i64 state))) => (((HR0.out.off HRW0.out hS).kept hb).set hk state).ports he)
 have HP := Lib.hid (fun wf (hb : Below w.heap.size w wf) (he : ElemsAt wf (some ⟨g, 0, none⟩) 5 (rows.modify k fun y => y.set 4 (.int .i64 state))) => ((HR0.out.below hb).set hk state).at he)
 have hzz : w.heap.size + 2 < w3.heap.size := by omega
 clear o1 o12 o3 oX b1 bX hrows2 z1 zX2 hcr'
 by_cases hs0 : state = 0
 ·
  subst hs0
  go_wp2_with fail
  (try rw [hw2])
  (try clear hw2)
  go_wp2_with fail
  rw [HC3.out]
  clear hw3
  (with_reducible refine (HW.out _ hst3).mono ?_)
  rintro e w4 ⟨v4, ⟨n4, rfl⟩, o4, b4⟩
  obtain ⟨sa1, sc1, rfl, _⟩ := o4.elems
  rw [List.length_map]
  have rB4 := (row_below b4 (by omega)).trans rB3
  have rR4 := (row_below b4 (by omega)).trans rR3
  have z4 := b4.size
  have b34 : Below w.heap.size w w4 := b3.trans (b4.mono b3.size)
  have o34 := O3.out.below b4
  obtain ⟨w5, hw5⟩ : ∃ y, w4.setRow w.heap.size #[.slice (some ⟨g, 0, none⟩) x.rs.length gcap, .int .i64 x.ageing, .slice sa1 (dropL (k : Int) x.st).length sc1, .slice ba x.bi.length bcap, .int .i64 x.c0, .int .i64 x.c1, .int .i64 x.c2, .int .i64 x.c3, .int .i64 x.c4] = y := ⟨_, rfl⟩
  have rB5 : row w5 w.heap.size = #[.slice (some ⟨g, 0, none⟩) x.rs.length gcap, .int .i64 x.ageing, .slice sa1 (dropL (k : Int) x.st).length sc1, .slice ba x.bi.length bcap, .int .i64 x.c0, .int .i64 x.c1, .int .i64 x.c2, .int .i64 x.c3, .int .i64 x.c4] := by rw [← hw5]; exact row_setRow_same (by rw [rB4]; simp) (by rw [rB4]; rfl)
  have rR5 : row w5 (w.heap.size + 1) = (Value.slice none 0 0 :: Value.int .i64 0 :: (zeros 2 (Value.slice none 0 0) ++ zeros 5 (Value.int .i64 0))).toArray := by rw [← hw5, row_setRow_other _ _ _ (by omega)]; exact rR4
  have z5 : w5.heap.size = w4.heap.size := by rw [← hw5, setRow_size]
  have b5 : Below w.heap.size w w5 := by rw [← hw5]; exact Below.setRow b34 (Nat.le_refl _) _
  have o45 := o4.other (X := w.heap.size) (by omega) #[.slice (some ⟨g, 0, none⟩) x.rs.length gcap, .int .i64 x.ageing, .slice sa1 (dropL (k : Int) x.st).length sc1, .slice ba x.bi.length bcap, .int .i64 x.c0, .int .i64 x.c1, .int .i64 x.c2, .int .i64 x.c3, .int .i64 x.c4]
  have o35 := o34.other (X := w.heap.size) (by rw [HZW.out]; omega) #[.slice (some ⟨g, 0, none⟩) x.rs.length gcap, .int .i64 x.ageing, .slice sa1 (dropL (k : Int) x.st).length sc1, .slice ba x.bi.length bcap, .int .i64 x.c0, .int .i64 x.c1, .int .i64 x.c2, .int .i64 x.c3, .int .i64 x.c4]
  rw [hw5] at o45 o35
  have HO4 := Lib.hid o45
  have HO3 := Lib.hid o35
  clear o45 o35 o34 O3 o4 b4
  go_wp2_with fail
  (try rw [hw5])
  (try clear hw5)
  go_wp2_with fail
  have hfin := row_setRow_same (w := w5) (g := w.heap.size + 1) (c := #[.slice (some ⟨g, 0, none⟩) x.rs.length gcap, .int .i64 x.ageing, .slice sa1 (dropL (k : Int) x.st).length sc1, .slice ba x.bi.length bcap, .int .i64 x.c0, .int .i64 x.c1, .int .i64 x.c2, .int .i64 x.c3, .int .i64 x.c4]) (by rw [rR5]; simp) (by rw [rR5]; simp)
  refine bodyPost_ret (results_1 rfl (resOk_row rfl ?_)) rfl ?_
  ·
   rw [hfin]; rfl
  have bf := Below.setRow (g := w.heap.size + 1) b5 (Nat.le_succ _) (#[.slice (some ⟨g, 0, none⟩) x.rs.length gcap, .int .i64 x.ageing, .slice sa1 (dropL (k : Int) x.st).length sc1, .slice ba x.bi.length bcap, .int .i64 x.c0, .int .i64 x.c1, .int .i64 x.c2, .int .i64 x.c3, .int .i64 x.c4])
  refine ⟨⟨⟨some ⟨g, 0, none⟩, gcap, sa1, sc1, ba, bcap⟩, ?_, ⟨HP.out _ bf (HO3.out.other (by rw [HZW.out]; omega) _).at, ?_, hbi.below bf⟩, fun S hS => HPO.out S hS _ bf (HO3.out.other (by rw [HZW.out]; omega) _).at⟩, bf⟩
  ·
   rw [hfin]
   simp only [stateR, if_true, setR_length]
  ·
   simp only [stateR, if_true]
   exact (HO4.out.other (by omega) _).at
 ·
  have hs0b : (state == 0) = false := beq_eq_false_iff_ne.2 hs0
  have hcell := HC3.out
  go_wp2_with fail
  (try rw [hw2])
  (try clear hw2)
  go_wp2_with fail
  have hfin := row_setRow_same (w := w3) (g := w.heap.size + 1) (c := #[.slice (some ⟨g, 0, none⟩) x.rs.length gcap, .int .i64 x.ageing, .slice sa x.st.length scap, .slice ba x.bi.length bcap, .int .i64 x.c0, .int .i64 x.c1, .int .i64 x.c2, .int .i64 x.c3, .int .i64 x.c4]) (by rw [rR3]; simp) (by rw [rR3]; simp)
  refine bodyPost_ret (results_1 rfl (resOk_row rfl ?_)) rfl ?_
  ·
   rw [hfin]; rfl
  have bf := Below.setRow (g := w.heap.size + 1) b3 (Nat.le_succ _) (#[.slice (some ⟨g, 0, none⟩) x.rs.length gcap, .int .i64 x.ageing, .slice sa x.st.length scap, .slice ba x.bi.length bcap, .int .i64 x.c0, .int .i64 x.c1, .int .i64 x.c2, .int .i64 x.c3, .int .i64 x.c4])
  refine ⟨⟨⟨some ⟨g, 0, none⟩, gcap, sa, scap, ba, bcap⟩, ?_, ⟨HP.out _ bf (O3.out.other (by rw [HZW.out]; omega) _).at, ?_, hbi.below bf⟩, fun S hS => HPO.out S hS _ bf (O3.out.other (by rw [HZW.out]; omega) _).at⟩, bf⟩
  ·
   rw [hfin]
   simp only [stateR, if_neg hs0, setR_length]
  ·
   simp only [stateR, if_neg hs0]
   exact hst.below bf
end
section
open Go.RowKit Go.Shelf
def okRP (p : PortD) : Bool := okPort p && !badLim p.lim
theorem new_eq (ageing : Int) (ps : List PortD) : newOkB ageing ps = (ps.all okRP && (decide ((1 : Int) ≤ (ps.length : Int)) && decide ((ps.length : Int) ≤ 32) && decide (1 ≤ ageing) && decide (ageing ≤ 1000000))) := by
 unfold newOkB newOkL okRP
 rw [Bool.eq_iff_iff]
 simp only [Bool.and_eq_true, List.all_eq_true, List.length_map, Bool.not_eq_true', List.any_eq_false, List.mem_map, decide_eq_true_eq]
 constructor
 ·
  rintro ⟨⟨h1, ⟨⟨h2, h3⟩, h4⟩, h5⟩, h6⟩
  exact ⟨fun p hp => ⟨h1 p hp, by simpa using h5 _ ⟨p, hp, rfl⟩⟩, ⟨⟨by omega, by omega⟩, h2⟩, h3⟩
 ·
  rintro ⟨h1, ⟨⟨h2, h3⟩, h4⟩, h5⟩
  exact ⟨⟨fun p hp => (h1 p hp).1, ⟨⟨h4, h5⟩, by omega⟩, fun x ⟨p, hp, e⟩ => by subst e; have := (h1 p hp).2; simpa using this⟩, by omega⟩
theorem new_bad {ageing : Int} {rs : List RPortD} {k : Nat} (hk : k < rs.length) (h : okRP rs[k].p = false) : newOkB ageing (rs.map (·.p)) = false := by
 rw [new_eq, Bool.and_eq_false_iff]
 left
 rw [List.all_eq_false]
 exact ⟨rs[k].p, List.mem_map.2 ⟨rs[k], List.getElem_mem _, rfl⟩, by rw [h]; decide⟩
theorem new_all {ageing : Int} {rs : List RPortD} (h : ∀ r ∈ rs, okRP r.p = true) : newOkB ageing (rs.map (·.p)) = (decide ((1 : Int) ≤ (rs.length : Int)) && decide ((rs.length : Int) ≤ 32) && decide (1 ≤ ageing) && decide (ageing ≤ 1000000)) := by
 rw [new_eq, List.length_map]
 have : (rs.map (·.p)).all okRP = true := by
  rw [List.all_eq_true]
  intro p hp
  obtain ⟨r, hr, rfl⟩ := List.mem_map.1 hp
  exact h r hr
 rw [this, Bool.true_and]
theorem all_step {rs : List RPortD} {k : Nat} {hlt : k < rs.length} (ha : ∀ (i : Nat) (hi : i < rs.length), i < k → okRP rs[i].p = true) (hb : okRP rs[k].p = true) : ∀ (i : Nat) (hi : i < rs.length), i < k + 1 → okRP rs[i].p = true := by
 intro i hi hik
 rcases Nat.lt_or_ge i k with h0 | h0
 ·
  exact ha i hi h0
 ·
  obtain rfl : i = k := by omega
  exact hb
set_option maxRecDepth 20000 in
set_option maxHeartbeats 4000000 in
theorem r22Right_any (A : RefA) (x : RefS) (w : World) (h : RPortsAt w A.pa x.rs) :
  Calls Tryz.prog 9 #[.agg (refV A x).toArray] w fun e w' => e = .returned (.bool (newOkB x.ageing (x.rs.map (·.p)))) ∧ Below w.heap.size w w' := by
 have hm := h.1
 have hnI : (x.rs.length : Int) ≤ 9223372036854775807 := by unfold maxLen at hm; omega
 clear hm
 obtain ⟨pa, pcap, sa, scap, ba, bcap⟩ := A
 unfold refV
 dsimp only at *
 go_enter Tryz.func9, Tryz.ntmps9
 obtain ⟨W, hW⟩ : ∃ W, w.alloc (.cells #[.slice pa x.rs.length pcap, .int .i64 x.ageing, .slice sa x.st.length scap, .slice ba x.bi.length bcap, .int .i64 x.c0, .int .i64 x.c1, .int .i64 x.c2, .int .i64 x.c3, .int .i64 x.c4] 31) = W := ⟨_, rfl⟩
 have bW : Below w.heap.size w W := by rw [← hW]; exact Below.alloc (Below.refl _ _) (Nat.le_refl _) _
 have rB : row W w.heap.size = #[.slice pa x.rs.length pcap, .int .i64 x.ageing, .slice sa x.st.length scap, .slice ba x.bi.length bcap, .int .i64 x.c0, .int .i64 x.c1, .int .i64 x.c2, .int .i64 x.c3, .int .i64 x.c4] := by rw [← hW]; exact row_alloc_at _ _ _ rfl
 have zW : W.heap.size = w.heap.size + 1 := by rw [← hW, alloc_sizeW]
 go_wp2_with fail
 (try rw [hW])
 clear hW
 go_loopw [3] (fun i wr => ∃ k : Nat, k ≤ x.rs.length ∧ i = .int .i64 k ∧ (∀ (i : Nat) (hi : i < x.rs.length), i < k → okRP x.rs[i].p = true) ∧ Below W.heap.size W wr) (fun i _ => x.rs.length - (intOf i).toNat)
 case atStart => exact ⟨0, by omega, rfl, fun i hi h => by omega, Below.refl _ _⟩
 case round =>
  obtain ⟨k, hk, rfl, hall, D⟩ := hrel
  have rBr := (row_below D (by omega)).trans rB
  have zr := D.size
  have HA := Lib.hid hall
  have DW := D
  replace D := bW.trans (D.mono bW.size)
  clear rB hall
  by_cases hlt : k < x.rs.length
  ·
   have hkI : (k : Int) < (x.rs.length : Int) := by omega
   obtain ⟨pb, po, ta, tc, rfl, hpb, hrd⟩ := h.get hlt
   have hld := run_loadS_at (P := Tryz.prog) (t := 71) (hrd wr D).1 (by simp [rportV])
   have hit := (hrd w (Below.refl _ _)).2
   unfold rportV at hld
   obtain ⟨⟨⟨nat, tag, hor, lim⟩, st⟩, hr0⟩ : ∃ y, x.rs[k] = y := ⟨_, rfl⟩
   rw [hr0] at hld hit
   have HP := Lib.hid (congrArg RPortD.p hr0)
   dsimp only at hld hit HP
   obtain ⟨o, ho⟩ : ∃ o, po + k * 5 = o := ⟨_, rfl⟩
   rw [ho] at hld
   have HR := Lib.hid (fun w (h : IntsAt w ta tag) => r19Right_any nat ta tc tag w h)
   obtain ⟨W1, hW1⟩ : ∃ W, wr.alloc (.cells #[Value.int .i64 nat, Value.slice ta tag.length tc, Value.int .i64 hor, Value.int .i64 lim, Value.int .i64 st] 71) = W := ⟨_, rfl⟩
   have bW1 : Below wr.heap.size wr W1 := by rw [← hW1]; exact Below.alloc (Below.refl _ _) (Nat.le_refl _) _
   have rX : row W1 wr.heap.size = #[Value.int .i64 nat, Value.slice ta tag.length tc, Value.int .i64 hor, Value.int .i64 lim, Value.int .i64 st] := by rw [← hW1]; exact row_alloc_at _ _ _ rfl
   have zW1 : W1.heap.size = wr.heap.size + 1 := by rw [← hW1, alloc_sizeW]
   have hi1 := hit.below (D.trans (bW1.mono D.size))
   have zW1b := D.size
   clear hrd hit hr0 h
   cases hr1 : rightP nat tag with
   | false =>
    have HB := Lib.hid (show okRP x.rs[k].p = false by rw [HP.out]; unfold okRP okPort; dsimp only; rw [hr1]; rfl)
    rw [hr1] at HR
    go_wp2_with fail
    (try rw [hW1])
    try clear hW1
    (with_reducible refine (HR.out _ hi1).mono ?_)
    rintro e w5 ⟨rfl, b5⟩
    have rX5 := (row_below b5 (by omega)).trans rX
    have z5 := b5.size
    have c5 := D.trans ((bW1.mono D.size).trans (b5.mono (by omega)))
    have c5W := DW.trans ((bW1.mono DW.size).trans (b5.mono (by omega)))
    clear rX
    go_wp2_with fail
    go_ret
    exact ⟨by rw [new_bad hlt HB.out]; rfl, c5⟩
   | true =>
    rw [hr1] at HR
    by_cases h2 : hor < 0
    ·
     have h2b := decide_eq_true h2
     have HB := Lib.hid (show okRP x.rs[k].p = false by rw [HP.out]; unfold okRP okPort badLim; dsimp only; rw [decide_eq_false (show ¬ 0 ≤ hor by omega)]; simp)
     go_wp2_with fail
     (try rw [hW1])
     try clear hW1
     (with_reducible refine (HR.out _ hi1).mono ?_)
     rintro e w5 ⟨rfl, b5⟩
     have rX5 := (row_below b5 (by omega)).trans rX
     have z5 := b5.size
     have c5 := D.trans ((bW1.mono D.size).trans (b5.mono (by omega)))
     have c5W := DW.trans ((bW1.mono DW.size).trans (b5.mono (by omega)))
     clear rX
     go_wp2_with fail
     go_ret
     exact ⟨by rw [new_bad hlt HB.out]; rfl, c5⟩
    have h2b := decide_eq_false h2
    by_cases h3 : 255 < hor
    ·
     have h3b := decide_eq_true h3
     have HB := Lib.hid (show okRP x.rs[k].p = false by rw [HP.out]; unfold okRP okPort badLim; dsimp only; rw [decide_eq_false (show ¬ hor ≤ 255 by omega)]; simp)
     go_wp2_with fail
     (try rw [hW1])
     try clear hW1
     (with_reducible refine (HR.out _ hi1).mono ?_)
     rintro e w5 ⟨rfl, b5⟩
     have rX5 := (row_below b5 (by omega)).trans rX
     have z5 := b5.size
     have c5 := D.trans ((bW1.mono D.size).trans (b5.mono (by omega)))
     have c5W := DW.trans ((bW1.mono DW.size).trans (b5.mono (by omega)))
     clear rX
     go_wp2_with fail
     go_ret
     exact ⟨by rw [new_bad hlt HB.out]; rfl, c5⟩
    have h3b := decide_eq_false h3
    by_cases h4 : lim < 0
    ·
     have h4b := decide_eq_true h4
     have HB := Lib.hid (show okRP x.rs[k].p = false by rw [HP.out]; unfold okRP okPort badLim; dsimp only; rw [decide_eq_true h4]; simp)
     go_wp2_with fail
     (try rw [hW1])
     try clear hW1
     (with_reducible refine (HR.out _ hi1).mono ?_)
     rintro e w5 ⟨rfl, b5⟩
     have rX5 := (row_below b5 (by omega)).trans rX
     have z5 := b5.size
     have c5 := D.trans ((bW1.mono D.size).trans (b5.mono (by omega)))
     have c5W := DW.trans ((bW1.mono DW.size).trans (b5.mono (by omega)))
     clear rX
     go_wp2_with fail
     go_ret
     exact ⟨by rw [new_bad hlt HB.out]; rfl, c5⟩
    have h4b := decide_eq_false h4
    by_cases h5 : 65535 < lim
    ·
     have h5b := decide_eq_true h5
     have HB := Lib.hid (show okRP x.rs[k].p = false by rw [HP.out]; unfold okRP okPort badLim; dsimp only; rw [decide_eq_false h4, decide_eq_true h5]; simp)
     go_wp2_with fail
     (try rw [hW1])
     try clear hW1
     (with_reducible refine (HR.out _ hi1).mono ?_)
     rintro e w5 ⟨rfl, b5⟩
     have rX5 := (row_below b5 (by omega)).trans rX
     have z5 := b5.size
     have c5 := D.trans ((bW1.mono D.size).trans (b5.mono (by omega)))
     have c5W := DW.trans ((bW1.mono DW.size).trans (b5.mono (by omega)))
     clear rX
     go_wp2_with fail
     go_ret
     exact ⟨by rw [new_bad hlt HB.out]; rfl, c5⟩
    have h5b := decide_eq_false h5
    have HB := Lib.hid (show okRP x.rs[k].p = true by rw [HP.out]; unfold okRP okPort badLim; dsimp only; rw [hr1, decide_eq_true (show 0 ≤ hor by omega), decide_eq_true (show hor ≤ 255 by omega), decide_eq_false h4, decide_eq_false h5]; rfl)
    go_wp2_with fail
    (try rw [hW1])
    try clear hW1
    (with_reducible refine (HR.out _ hi1).mono ?_)
    rintro e w5 ⟨rfl, b5⟩
    have rX5 := (row_below b5 (by omega)).trans rX
    have z5 := b5.size
    have c5 := D.trans ((bW1.mono D.size).trans (b5.mono (by omega)))
    have c5W := DW.trans ((bW1.mono DW.size).trans (b5.mono (by omega)))
    clear rX
    go_wp2_with fail
    have HS := Lib.hid (show ∀ (i : Nat) (hi : i < x.rs.length), i < k + 1 → okRP x.rs[i].p = true from all_step HA.out HB.out)
    go_roundw
    case rel => exact ⟨k + 1, by omega, by simp, HS.out, c5W⟩
    case measure => simp [intOf]; omega
  ·
   obtain rfl : k = x.rs.length := by omega
   have hkI : ¬ (x.rs.length : Int) < (x.rs.length : Int) := by omega
   have HA2 := Lib.hid (show ∀ r ∈ x.rs, okRP r.p = true by intro r hr; obtain ⟨i, hi, rfl⟩ := List.getElem_of_mem hr; exact HA.out i hi hi)
   by_cases f1 : (1 : Int) ≤ (x.rs.length : Int)
   ·
    have f1b := decide_eq_true f1
    by_cases f2 : (x.rs.length : Int) ≤ 32
    ·
     have f2b := decide_eq_true f2
     by_cases f3 : 1 ≤ x.ageing
     ·
      have f3b := decide_eq_true f3
      by_cases f4 : x.ageing ≤ 1000000
      ·
       have f4b := decide_eq_true f4
       have HF := Lib.hid (show newOkB x.ageing (x.rs.map (·.p)) = true by rw [new_all HA2.out, decide_eq_true f1, decide_eq_true f2, decide_eq_true f3, decide_eq_true f4]; rfl)
       go_wp2_with fail
       go_ret
       exact ⟨by rw [HF.out]; rfl, D⟩
      ·
       have f4b := decide_eq_false f4
       have HF := Lib.hid (show newOkB x.ageing (x.rs.map (·.p)) = false by rw [new_all HA2.out, decide_eq_false f4]; simp)
       go_wp2_with fail
       go_ret
       exact ⟨by rw [HF.out]; rfl, D⟩
     ·
      have f3b := decide_eq_false f3
      have HF := Lib.hid (show newOkB x.ageing (x.rs.map (·.p)) = false by rw [new_all HA2.out, decide_eq_false f3]; simp)
      go_wp2_with fail
      go_ret
      exact ⟨by rw [HF.out]; rfl, D⟩
    ·
     have f2b := decide_eq_false f2
     have HF := Lib.hid (show newOkB x.ageing (x.rs.map (·.p)) = false by rw [new_all HA2.out, decide_eq_false f2]; simp)
     go_wp2_with fail
     go_ret
     exact ⟨by rw [HF.out]; rfl, D⟩
   ·
    have f1b := decide_eq_false f1
    have HF := Lib.hid (show newOkB x.ageing (x.rs.map (·.p)) = false by rw [new_all HA2.out, decide_eq_false f1]; simp)
    go_wp2_with fail
    go_ret
    exact ⟨by rw [HF.out]; rfl, D⟩
def mayR (p q : RPortD) (fr to : Nat) (v : Int) : Bool := (fr != to) && (q.state == 3) && memberP q.p.native q.p.tagged v && (p.p.hor == 0 || p.p.hor != q.p.hor)
set_option maxRecDepth 20000 in
set_option maxHeartbeats 4000000 in
theorem r22may_any (A : RefA) (x : RefS) (fr to : Nat) (v : Int) (w : World) (h : RPortsAt w A.pa x.rs) (hf : fr < x.rs.length) (ht : to < x.rs.length) (hn : x.rs.length ≤ 1000) :
  Calls Tryz.prog 48 #[.agg (refV A x).toArray, .int .i64 (fr : Int), .int .i64 (to : Int), .int .i64 v] w fun e w' => e = .returned (.bool (mayR x.rs[fr] x.rs[to] fr to v)) ∧ Below w.heap.size w w' := by
 obtain ⟨pa, pcap, sa, scap, ba, bcap⟩ := A
 unfold refV
 dsimp only at *
 have hfI : (fr : Int) < (x.rs.length : Int) := by omega
 have htI : (to : Int) < (x.rs.length : Int) := by omega
 have hf0 : (0 : Int) ≤ (fr : Int) := by omega
 have ht0 : (0 : Int) ≤ (to : Int) := by omega
 have hnI : (x.rs.length : Int) ≤ 1000 := by omega
 obtain ⟨pb, po, ta, tc, rfl, hpb, hrd⟩ := h.get hf
 obtain ⟨pb', po', ua, uc, epa, _, hre⟩ := h.get ht
 cases epa
 obtain ⟨p, hp⟩ : ∃ y, x.rs[fr] = y := ⟨_, rfl⟩
 obtain ⟨q, hq⟩ : ∃ y, x.rs[to] = y := ⟨_, rfl⟩
 rw [hp] at hrd ⊢
 rw [hq] at hre ⊢
 obtain ⟨r, hr⟩ : ∃ y, mayR p q fr to v = y := ⟨_, rfl⟩
 rw [hr]
 have hne : ((fr : Int) != (to : Int)) = (fr != to) := by
  rw [Bool.eq_iff_iff, bne_iff_ne, bne_iff_ne]
  omega
 have HR := Lib.hid (show ((fr : Int) != (to : Int) && (q.state == 3) && memberP q.p.native q.p.tagged v && (p.p.hor == 0 || p.p.hor != q.p.hor)) = r by rw [hne, ← hr]; rfl)
 obtain ⟨o, ho⟩ : ∃ o, po + fr * 5 = o := ⟨_, rfl⟩
 obtain ⟨u, hu⟩ : ∃ o, po + to * 5 = o := ⟨_, rfl⟩
 have gP : ∀ W, Below w.heap.size w W → (loadS 71 (.pointer (some ⟨pb, o, none⟩))).run Tryz.prog W = .ok (.agg [Value.int .i64 p.p.native, Value.slice ta p.p.tagged.length tc, Value.int .i64 p.p.hor, Value.int .i64 p.p.lim, Value.int .i64 p.state].toArray) W := fun W hW => by rw [← ho]; exact run_loadS_at (hrd W hW).1 (by simp [rportV])
 have gQ : ∀ W, Below w.heap.size w W → (loadS 71 (.pointer (some ⟨pb, u, none⟩))).run Tryz.prog W = .ok (.agg [Value.int .i64 q.p.native, Value.slice ua q.p.tagged.length uc, Value.int .i64 q.p.hor, Value.int .i64 q.p.lim, Value.int .i64 q.state].toArray) W := fun W hW => by rw [← hu]; exact run_loadS_at (hre W hW).1 (by simp [rportV])
 have HI := Lib.hid (fun W hW => (hre W hW).2)
 have HM := Lib.hid (fun w (h : IntsAt w ua q.p.tagged) => r19Member_any q.p.native ua uc q.p.tagged v w h)
 clear hrd hre hp hq hr hne h
 go_enter Tryz.func48, Tryz.ntmps48
 obtain ⟨W, hW⟩ : ∃ W, w.alloc (.cells #[.slice (some ⟨pb, po, none⟩) x.rs.length pcap, .int .i64 x.ageing, .slice sa x.st.length scap, .slice ba x.bi.length bcap, .int .i64 x.c0, .int .i64 x.c1, .int .i64 x.c2, .int .i64 x.c3, .int .i64 x.c4] 31) = W := ⟨_, rfl⟩
 have bW : Below w.heap.size w W := by rw [← hW]; exact Below.alloc (Below.refl _ _) (Nat.le_refl _) _
 have rB : row W w.heap.size = #[.slice (some ⟨pb, po, none⟩) x.rs.length pcap, .int .i64 x.ageing, .slice sa x.st.length scap, .slice ba x.bi.length bcap, .int .i64 x.c0, .int .i64 x.c1, .int .i64 x.c2, .int .i64 x.c3, .int .i64 x.c4] := by rw [← hW]; exact row_alloc_at _ _ _ rfl
 have zW : W.heap.size = w.heap.size + 1 := by rw [← hW, alloc_sizeW]
 have hG : GrowP fun W' => Below w.heap.size w W' := grow_base w
 go_wp2_with fail
 (try rw [hW])
 clear hW
 have HZ := Lib.hid zW
 refine wp_region_beginX [(w.heap.size, #[.slice (some ⟨pb, po, none⟩) x.rs.length pcap, .int .i64 x.ageing, .slice sa x.st.length scap, .slice ba x.bi.length bcap, .int .i64 x.c0, .int .i64 x.c1, .int .i64 x.c2, .int .i64 x.c3, .int .i64 x.c4])] (fun W' => Below w.heap.size w W') hG rfl (by simp only [Rws]; (repeat (first | exact trivial | refine ⟨(by first | assumption | (simp [go_sem, *]; done)), (by first | omega | (simp; done) | (simp; omega)), ?_⟩))) (bW) (fun hS => ?_)
 refine sp 0 hG hS ?_
 refine sp 1 hG hS ?_
 refine sp 2 hG hS ?_
 refine sp 3 hG hS ?_
 refine sp 4 hG hS ?_
 refine sp 5 hG hS ?_
 refine sp 6 hG hS ?_
 refine sp 7 hG hS ?_
 refine sp 8 hG hS ?_
 refine sp 9 hG hS ?_
 refine wpAnyR_pairS (i := 10) (j := 11) (k := 12) (m := 13) (zi := (Value.int .i64 0 :: Value.slice none 0 0 :: zeros 3 (Value.int .i64 0)).toArray) (zj := (Value.int .i64 0 :: Value.slice none 0 0 :: zeros 3 (Value.int .i64 0)).toArray) (cA := ([Value.int .i64 p.p.native, Value.slice ta p.p.tagged.length tc, Value.int .i64 p.p.hor, Value.int .i64 p.p.lim, Value.int .i64 p.state]).toArray) (cB := ([Value.int .i64 q.p.native, Value.slice ua q.p.tagged.length uc, Value.int .i64 q.p.hor, Value.int .i64 q.p.lim, Value.int .i64 q.state]).toArray) (by simp only [List.getElem?_toArray, List.getElem?_cons_succ, List.getElem?_cons_zero]; rfl) (by simp only [List.getElem?_toArray, List.getElem?_cons_succ, List.getElem?_cons_zero]; rfl) (by simp only [List.getElem?_toArray, List.getElem?_cons_succ, List.getElem?_cons_zero]; rfl) (by simp only [List.getElem?_toArray, List.getElem?_cons_succ, List.getElem?_cons_zero]; rfl) ⟨rfl, rfl, fun a w => by go_simp; (refine ⟨?_, ?_⟩ <;> rfl)⟩ ⟨rfl, rfl, fun a w => by go_simp; (refine ⟨?_, ?_⟩ <;> rfl)⟩ (by decide) (by decide) (by kernel_rfl) (by kernel_rfl) (by kernel_rfl) (by kernel_rfl) (by kernel_rfl) (by kernel_rfl) rfl rfl rfl rfl (by simp [*]) (by simp [*]) (by simp) (by simp) (fun A B w1 hr => by
  simp only [Act.put, List.setIfInBounds_toArray, List.set_cons_zero, List.set_cons_succ, ptr]
  go_simp
  try rfl) (fun A B w1 hr => by
  simp only [Act.put, List.setIfInBounds_toArray, List.set_cons_zero, List.set_cons_succ, ptr]
  go_simp
  try rfl) (XS.grow hG) (XS.setB (by simp; (try omega)) (by first | omega | (simp; done) | (simp; omega))) hS (fun X Y w2 gX gY nX zX zY b2 rX rY => ?_)
 (try simp only [Act.put, List.setIfInBounds_toArray, List.set_cons_zero, List.set_cons_succ])
 replace gX : (W).heap.size ≤ X := gX
 replace gY : (W).heap.size ≤ Y := gY
 replace b2 : Below (W).heap.size W w2 := Below.trans (Below.drew (Below.refl _ _)) b2
 have zw2 := (b2).size
 simp only [ptr]
 clear hS
 have c2 := bW.trans (b2.mono bW.size)
 have hi2 := HI.out w2 c2
 clear gP gQ ho hu hG
 cases e1 : ((fr : Int) != (to : Int)) with
 | false =>
  have HF := Lib.hid (show r = false by rw [← HR.out]; simp [e1])
  go_wp2_with fail
  go_ret
  exact ⟨by rw [HF.out]; rfl, c2⟩
 | true =>
 cases e2 : (q.state == 3) with
 | false =>
  have HF := Lib.hid (show r = false by rw [← HR.out]; simp [e1, e2])
  go_wp2_with fail
  go_ret
  exact ⟨by rw [HF.out]; rfl, c2⟩
 | true =>
 cases hm : memberP q.p.native q.p.tagged v with
 | false =>
  rw [hm] at HM HR
  have HF := Lib.hid (show r = false by rw [← HR.out]; simp [e1, e2])
  go_wp2_with fail
  (with_reducible refine (HM.out _ hi2).mono ?_)
  rintro e w3 ⟨rfl, b3⟩
  have rX3 := (row_below b3 zX).trans rX
  have rY3 := (row_below b3 zY).trans rY
  have c3 := c2.trans (b3.mono c2.size)
  clear rX rY
  go_wp2_with fail
  go_ret
  exact ⟨by rw [HF.out]; rfl, c3⟩
 | true =>
 rw [hm] at HM HR
 cases e3 : (p.p.hor == 0) with
 | true =>
  have HF := Lib.hid (show r = true by rw [← HR.out]; simp [e1, e2, e3])
  go_wp2_with fail
  (with_reducible refine (HM.out _ hi2).mono ?_)
  rintro e w3 ⟨rfl, b3⟩
  have rX3 := (row_below b3 zX).trans rX
  have rY3 := (row_below b3 zY).trans rY
  have c3 := c2.trans (b3.mono c2.size)
  clear rX rY
  go_wp2_with fail
  go_ret
  exact ⟨by rw [HF.out]; rfl, c3⟩
 | false =>
 cases e4 : (p.p.hor != q.p.hor) with
 | false =>
  have HF := Lib.hid (show r = false by rw [← HR.out]; simp [e1, e2, e3, e4])
  go_wp2_with fail
  (with_reducible refine (HM.out _ hi2).mono ?_)
  rintro e w3 ⟨rfl, b3⟩
  have rX3 := (row_below b3 zX).trans rX
  have rY3 := (row_below b3 zY).trans rY
  have c3 := c2.trans (b3.mono c2.size)
  clear rX rY
  go_wp2_with fail
  go_ret
  exact ⟨by rw [HF.out]; rfl, c3⟩
 | true =>
  have HF := Lib.hid (show r = true by rw [← HR.out]; simp [e1, e2, e3, e4])
  go_wp2_with fail
  (with_reducible refine (HM.out _ hi2).mono ?_)
  rintro e w3 ⟨rfl, b3⟩
  have rX3 := (row_below b3 zX).trans rX
  have rY3 := (row_below b3 zY).trans rY
  have c3 := c2.trans (b3.mono c2.size)
  clear rX rY
  go_wp2_with fail
  go_ret
  exact ⟨by rw [HF.out]; rfl, c3⟩
end
end Go.Proofs.YtckckabedgpbiaaGreat
