/- Texts of this proof, merged: FabE, FabR, FabC, FabD, FabF, FabG, FabH, FabI, FabJ, FabL, FabV, FabS, FabW, FabX. -/
import Derived.Test.YtfopoijikdmiaaaGreatDoorJ49
import Derived.Test.YtfopoijikdmiaaaGreatDoorJ50
import Derived.Test.YtfopoijikdmiaaaGreatDoorJ8
import Derived.Deep.AppendLies
import Derived.Test.YtfopoijikdmiaaaGreatDoorJ41
import Derived.Test.YtfopoijikdmiaaaGreatDoorJ39
set_option linter.unusedSimpArgs false
set_option linter.unusedVariables false
set_option maxHeartbeats 8000000
set_option maxRecDepth 20000
namespace Go.Proofs.YtfopoijikdmiaaaGreatDoor
section
open Go.RowKit Go.Shelf
theorem fwire_load {W : World} {b o : Nat} {x : WireX} (h : W.rangeAt b o (wireC x)) : (loadS 109 (.pointer (some ⟨b, o, none⟩))).run Tryz.prog W = .ok (.agg (wireC x).toArray) W := run_loadS_at h (by simp [wireC])
section
variable (ca : Option Addr) (cc : Nat) (cs : List ConfX) (wa : Option Addr) (nw wc : Nat) (r k p d room : Int) (seed : List UInt8) (w : World) (h : ConfsAt w ca cs)
include h
theorem port_any (n i : Int) :
  Calls Tryz.prog 62 #[.agg (planV ca cs.length cc wa nw wc r k p d room seed).toArray, .agg #[.int .i64 n, .int .i64 i]] w fun e w' => (∃ ta tc, e = .returned (.tuple #[.agg (portXV ta tc ((portOf cs n i).getD x0)).toArray, .bool (portOf cs n i).isSome])) ∧ Below w.heap.size w w' := by
 by_cases hn : n < 0 ∨ (cs.length : Int) ≤ n ∨ i < 0
 ·
  rw [portOf_none hn]
  exact (port_no ca cc cs wa nw wc r k p d room seed w h n i hn).mono fun e w' ⟨h1, h2⟩ => ⟨⟨none, 0, h1⟩, h2⟩
 ·
  obtain ⟨m, rfl⟩ : ∃ m : Nat, n = m := ⟨n.toNat, by omega⟩
  obtain ⟨j, rfl⟩ : ∃ j : Nat, i = j := ⟨i.toNat, by omega⟩
  have hm : m < cs.length := by omega
  rw [portOf_at hm]
  by_cases hj : j < cs[m].ps.length
  ·
   rw [List.getElem?_eq_getElem hj]
   exact port_at ca cc cs wa nw wc r k p d room seed w h m j hm hj
  ·
   rw [List.getElem?_eq_none (by omega)]
   exact (port_hi ca cc cs wa nw wc r k p d room seed w h m j hm (by omega)).mono fun e w' ⟨h1, h2⟩ => ⟨⟨none, 0, h1⟩, h2⟩
end
theorem wireOk_eq {cs : List ConfX} {seen : List (Int × Int)} {x : WireX} {y1 y2 : PortX} {s1 s2 k1 k2 : Bool} (h1 : (portOf cs x.a x.i).getD x0 = y1) (h2 : (portOf cs x.a x.i).isSome = s1) (h3 : (portOf cs x.b x.j).getD x0 = y2) (h4 : (portOf cs x.b x.j).isSome = s2)
  (h5 : seen.contains (x.a, x.i) = k1) (h6 : seen.contains (x.b, x.j) = k2) : wireOk cs seen x = (s1 && s2 && (!k1 && !k2 && !(x.a == x.b) && y1.link && y2.link && y1.psk == y2.psk && !(y1.greets == y2.greets) && y1.p.native == y2.p.native)) := by
 rw [← h1, ← h2, ← h3, ← h4, ← h5, ← h6]
 unfold wireOk
 cases portOf cs x.a x.i with
 | none => rfl
 | some p =>
  cases portOf cs x.b x.j with
  | none => rfl
  | some q => rfl
theorem endsP_any (ca : Option Addr) (cc : Nat) (cs : List ConfX) (wa : Option Addr) (wc : Nat) (ws : List WireX) (r k p d room : Int) (seed : List UInt8) (w : World) (h : ConfsAt w ca cs) (hw : WiresAt w wa ws) (hwn : ws.length ≤ 1000) :
  Calls Tryz.prog 38 #[.agg (planV ca cs.length cc wa ws.length wc r k p d room seed).toArray] w fun e w' => ((endsOk cs ws [] = false ∧ e = .returned (.tuple #[.map none, .bool false])) ∨ (endsOk cs ws [] = true ∧ ∃ M, e = .returned (.tuple #[.map (some M), .bool true]) ∧ w.heap.size ≤ M ∧ ∃ seen, SeenT w' M seen ∧ (ws = [] → seen = []))) ∧ Below w.heap.size w w' := by
 have hwnI : (ws.length : Int) ≤ 1000 := by omega
 unfold planV
 go_enter Tryz.func38, Tryz.ntmps38
 obtain ⟨w1, hw1⟩ : ∃ x, w.alloc (.cells #[Value.slice ca cs.length cc, .slice wa ws.length wc, .int .i64 r, .int .i64 k, .int .i64 p, .int .i64 d, .int .i64 room, .string ⟨seed.toArray⟩] 48) = x := ⟨_, rfl⟩
 have b1 : Below w.heap.size w w1 := by rw [← hw1]; exact ba_
 have z1 : w1.heap.size = w.heap.size + 1 := by rw [← hw1, alloc_sizeW]
 have rC1 : row w1 w.heap.size = #[Value.slice ca cs.length cc, .slice wa ws.length wc, .int .i64 r, .int .i64 k, .int .i64 p, .int .i64 d, .int .i64 room, .string ⟨seed.toArray⟩] := by rw [← hw1]; exact row_alloc_at _ _ _ rfl
 obtain ⟨w2, hw2⟩ : ∃ x, w1.alloc (.map #[] 0) = x := ⟨_, rfl⟩
 have b2 : Below w1.heap.size w1 w2 := by rw [← hw2]; exact ba_
 have z2 : w2.heap.size = w.heap.size + 2 := by rw [← hw2, alloc_sizeW, z1]
 have s2 : SeenT w2 (w.heap.size + 1) [] := by rw [← hw2, ← z1]; exact SeenT.nil
 have rC2 := (row_below b2 (by omega)).trans rC1
 have B2 : Below w.heap.size w w2 := b1.trans (b2.mono (by omega))
 go_wp2_with fail
 (try rw [hw2])
 clear hw2 rC1 b1 b2 z1
 have q0 : w.heap.size + 1 < w2.heap.size := by omega
 clear z2
 go_loopw [21] (fun i wr => ∃ (j : Nat) (seen : List (Int × Int)), j ≤ ws.length ∧ i = .int .i64 j ∧ endsOk cs ws [] = endsOk cs (ws.drop j) seen ∧ SeenT wr (w.heap.size + 1) seen ∧ (j = 0 → seen = []) ∧ BelowBut w2.heap.size (w.heap.size + 1) w2 wr) (fun i _ => ws.length - (intOf i).toNat)
 case atStart => exact ⟨0, [], by omega, rfl, rfl, s2, fun _ => rfl, BelowBut.of (Below.refl _ _)⟩
 case round =>
  obtain ⟨j, seen, hj, rfl, hen, hsn, hz, cb⟩ := hrel
  have zb := cb.size
  have rC := (cb.row (show w.heap.size < w2.heap.size by omega) (by omega)).trans rC2
  have cbw : Below w.heap.size w wr := B2.trans ((cb.mono (show w.heap.size ≤ w2.heap.size by omega)).below (by omega))
  by_cases hlt : j < ws.length
  ·
   have hltI : (j : Int) < (ws.length : Int) := by omega
   obtain ⟨vb, voff, rfl, hvb, hvr⟩ := hw.get hlt
   obtain ⟨x, hx⟩ : ∃ x, ws[j] = x := ⟨_, rfl⟩
   rw [List.drop_eq_getElem_cons hlt, hx] at hen
   rw [hx] at hvr
   obtain ⟨o, ho⟩ : ∃ o, voff + j * 4 = o := ⟨_, rfl⟩
   have hld := fwire_load (ho ▸ hvr wr cbw)
   unfold wireC at hld
   have HEN := h_ hen
   have HSN := h_ hsn
   clear hvr hx hen hsn
   obtain ⟨w4, hw4⟩ : ∃ y, wr.alloc (.cells #[Value.int .i64 x.a, Value.int .i64 x.i, Value.int .i64 x.b, Value.int .i64 x.j] 109) = y := ⟨_, rfl⟩
   have b4 : Below wr.heap.size wr w4 := by rw [← hw4]; exact ba_
   have z4 : w4.heap.size = wr.heap.size + 1 := by rw [← hw4, alloc_sizeW]
   have r4 : row w4 wr.heap.size = #[Value.int .i64 x.a, Value.int .i64 x.i, Value.int .i64 x.b, Value.int .i64 x.j] := by rw [← hw4]; exact row_alloc_at _ _ _ rfl
   have rC4 := (row_below b4 (by omega)).trans rC
   have HS4 := h_ (HSN.out.below b4)
   have B4 : Below w.heap.size w w4 := cbw.trans (b4.mono cbw.size)
   have k4 : wr.heap.size < w4.heap.size := by omega
   have k2 : w2.heap.size ≤ wr.heap.size := zb
   have cb4 : BelowBut w2.heap.size (w.heap.size + 1) w2 w4 := cb.trans ((BelowBut.of b4).mono zb)
   clear z4 b4 cb rC HSN
   go_wp2_with fail
   (try rw [hw4])
   (try clear hw4)
   obtain ⟨A, hA⟩ : ∃ A, wr.heap.size = A := ⟨_, rfl⟩
   rw [hA] at r4 k4 k2
   (try rw [hA])
   have HA := h_ hA
   clear hA hld
   have hG : GrowP fun W => Below w4.heap.size w4 W := grow_base w4
   have bW : Below w4.heap.size w4 w4 := Below.refl _ _
   refine rgX_ [(A, #[Value.int .i64 x.a, Value.int .i64 x.i, Value.int .i64 x.b, Value.int .i64 x.j])] (fun W => Below w4.heap.size w4 W) hG (Below.refl _ _) (fun hS => ?_)
   refine sp 0 hG hS ?_
   refine sp 1 hG hS ?_
   refine sp 2 hG hS ?_
   refine sp 3 hG hS ?_
   refine sp 4 hG hS ?_
   refine sp 5 hG hS ?_
   refine sp 6 hG hS ?_
   refine sp 7 hG hS ?_
   refine sp 8 hG hS ?_
   refine sp 9 hG hS ?_
   refine wpAnyR_pairS (i := 10) (j := 11) (k := 12) (m := 13) (zi := (zeros 2 (Value.int .i64 0)).toArray) (zj := (zeros 2 (Value.int .i64 0)).toArray) (cA := ([Value.int .i64 x.a, Value.int .i64 x.i]).toArray) (cB := ([Value.int .i64 x.b, Value.int .i64 x.j]).toArray) opt_ opt_ opt_ opt_ ⟨rfl, rfl, fun a w => by go_simp; (refine ⟨?_, ?_⟩ <;> rfl)⟩ ⟨rfl, rfl, fun a w => by go_simp; (refine ⟨?_, ?_⟩ <;> rfl)⟩ (by decide) (by decide) kr_ kr_ kr_ kr_ kr_ kr_ rfl rfl rfl rfl (by simp [*]) (by simp [*]) (by simp) (by simp) (fun A B w1 hr => by
    simp only [Act.put, List.setIfInBounds_toArray, List.set_cons_zero, List.set_cons_succ, ptr]
    go_simp
    try rfl) (fun A B w1 hr => by
    simp only [Act.put, List.setIfInBounds_toArray, List.set_cons_zero, List.set_cons_succ, ptr]
    go_simp
    try rfl) (XS.grow hG) (XS.setB (by simp; (try omega)) (by first | omega | (simp; done) | (simp; omega))) hS (fun X Y w5 gX gY nX zX zY b5 rX rY => ?_)
   (try simp only [Act.put, List.setIfInBounds_toArray, List.set_cons_zero, List.set_cons_succ])
   replace gX : (w4).heap.size ≤ X := gX
   replace gY : (w4).heap.size ≤ Y := gY
   replace b5 : Below (w4).heap.size w4 w5 := Below.trans (Below.drew (Below.refl _ _)) b5
   have zw5 := (b5).size
   simp only [ptr]
   clear hS
   have rC5 := (row_below b5 (by omega)).trans rC4
   have rA5 := (row_below b5 k4).trans r4
   have B5 : Below w.heap.size w w5 := B4.trans (b5.mono B4.size)
   have HS5 := h_ (HS4.out.below b5)
   have cb5 : BelowBut w2.heap.size (w.heap.size + 1) w2 w5 := cb4.trans ((BelowBut.of b5).mono (by omega))
   have hC5 := h.below B5
   clear rC4 r4 HS4 cb4 hG bW
   simp only [Exit.then]
   go_wp2_with fail
   have rX5 := rX
   have rY5 := rY
   clear rX rY
   have lC : w.heap.size < w5.heap.size := lt_of_row (i := 0) (by rw [rC5]; simp)
   have lA : A < w5.heap.size := lt_of_row (i := 0) (by rw [rA5]; simp)
   have lX : X < w5.heap.size := lt_of_row (i := 0) (by rw [rX5]; simp)
   have lY : Y < w5.heap.size := lt_of_row (i := 0) (by rw [rY5]; simp)
   have l2 : w2.heap.size ≤ w5.heap.size := by omega
   have b5' := b5
   clear b5 b5'
   have hp := port_any ca cc cs (some ⟨vb, voff, none⟩) ws.length wc r k p d room seed w5 (h.below B5) x.a x.i
   obtain ⟨y1, hy1⟩ : ∃ y, (portOf cs x.a x.i).getD x0 = y := ⟨_, rfl⟩
   obtain ⟨s1, hs1⟩ : ∃ y, (portOf cs x.a x.i).isSome = y := ⟨_, rfl⟩
   rw [hy1, hs1] at hp
   have Hy1 := h_ hy1
   have Hs1 := h_ hs1
   clear hy1 hs1
   unfold planV portXV at hp
   refine hp.mono ?_
   clear hp
   rintro e w6 ⟨⟨t1, c1, rfl⟩, b6⟩
   have rC6 := (row_below b6 (by omega)).trans rC5
   have rA6 := (row_below b6 (by omega)).trans rA5
   have rX6 := (row_below b6 (by omega)).trans rX5
   have rY6 := (row_below b6 (by omega)).trans rY5
   have B6 : Below w.heap.size w w6 := B5.trans (b6.mono B5.size)
   have HS6 := h_ (HS5.out.below b6)
   have cb6 : BelowBut w2.heap.size (w.heap.size + 1) w2 w6 := cb5.trans ((BelowBut.of b6).mono (by have := B5.size; omega))
   have z6 := b6.size
   clear rC5 rA5 rX5 rY5 HS5 cb5 b6
   obtain ⟨w7, hw7⟩ : ∃ y, w6.alloc (.cells (Value.int .i64 y1.p.native :: Value.slice t1 y1.p.tagged.length c1 :: Value.int .i64 y1.p.hor :: Value.int .i64 y1.p.lim :: Value.bool y1.link :: Value.int .i64 y1.rate :: Value.bool y1.greets :: u8v y1.psk).toArray 137) = y := ⟨_, rfl⟩
   have b7 : Below w6.heap.size w6 w7 := by rw [← hw7]; exact ba_
   have rP7 : row w7 w6.heap.size = (Value.int .i64 y1.p.native :: Value.slice t1 y1.p.tagged.length c1 :: Value.int .i64 y1.p.hor :: Value.int .i64 y1.p.lim :: Value.bool y1.link :: Value.int .i64 y1.rate :: Value.bool y1.greets :: u8v y1.psk).toArray := by rw [← hw7]; exact row_alloc_at _ _ _ rfl
   have lP : w6.heap.size < w7.heap.size := by rw [← hw7, alloc_sizeW]; omega
   have hzP : (zeros 1 (Value.int .i64 0)).tail = [] := rfl
   have rC7 := (row_below b7 (by omega)).trans rC6
   have rA7 := (row_below b7 (by omega)).trans rA6
   have rX7 := (row_below b7 (by omega)).trans rX6
   have rY7 := (row_below b7 (by omega)).trans rY6
   have B7 : Below w.heap.size w w7 := B6.trans (b7.mono B6.size)
   have HS7 := h_ (HS6.out.below b7)
   have cb7 : BelowBut w2.heap.size (w.heap.size + 1) w2 w7 := cb6.trans ((BelowBut.of b7).mono (by have := B6.size; omega))
   have z7 := b7.size
   clear rC6 rA6 rX6 rY6 HS6 cb6 b7
   go_wp2_with fail
   (try rw [hw7])
   (try clear hw7)
   obtain ⟨P, hP⟩ : ∃ b, w6.heap.size = b := ⟨_, rfl⟩
   rw [hP] at rP7 lP
   (try rw [hP])
   have HP := h_ hP
   clear hP hzP
   have hp := port_any ca cc cs (some ⟨vb, voff, none⟩) ws.length wc r k p d room seed w7 (h.below B7) x.b x.j
   obtain ⟨y2, hy2⟩ : ∃ y, (portOf cs x.b x.j).getD x0 = y := ⟨_, rfl⟩
   obtain ⟨s2x, hs2x⟩ : ∃ y, (portOf cs x.b x.j).isSome = y := ⟨_, rfl⟩
   rw [hy2, hs2x] at hp
   have Hy2 := h_ hy2
   have Hs2x := h_ hs2x
   clear hy2 hs2x
   unfold planV portXV at hp
   refine hp.mono ?_
   clear hp
   rintro e w8 ⟨⟨t2, c2, rfl⟩, b8⟩
   have rC8 := (row_below b8 (by omega)).trans rC7
   have rA8 := (row_below b8 (by omega)).trans rA7
   have rX8 := (row_below b8 (by omega)).trans rX7
   have rY8 := (row_below b8 (by omega)).trans rY7
   have rP8 := (row_below b8 (by omega)).trans rP7
   have B8 : Below w.heap.size w w8 := B7.trans (b8.mono B7.size)
   have HS8 := h_ (HS7.out.below b8)
   have cb8 : BelowBut w2.heap.size (w.heap.size + 1) w2 w8 := cb7.trans ((BelowBut.of b8).mono (by have := B7.size; omega))
   have z8 := b8.size
   clear rC7 rA7 rX7 rY7 rP7 HS7 cb7 b8
   obtain ⟨w9, hw9⟩ : ∃ y, w8.alloc (.cells (Value.int .i64 y2.p.native :: Value.slice t2 y2.p.tagged.length c2 :: Value.int .i64 y2.p.hor :: Value.int .i64 y2.p.lim :: Value.bool y2.link :: Value.int .i64 y2.rate :: Value.bool y2.greets :: u8v y2.psk).toArray 137) = y := ⟨_, rfl⟩
   have b9 : Below w8.heap.size w8 w9 := by rw [← hw9]; exact ba_
   have rR9 : row w9 w8.heap.size = (Value.int .i64 y2.p.native :: Value.slice t2 y2.p.tagged.length c2 :: Value.int .i64 y2.p.hor :: Value.int .i64 y2.p.lim :: Value.bool y2.link :: Value.int .i64 y2.rate :: Value.bool y2.greets :: u8v y2.psk).toArray := by rw [← hw9]; exact row_alloc_at _ _ _ rfl
   have lR : w8.heap.size < w9.heap.size := by rw [← hw9, alloc_sizeW]; omega
   have hzR : (zeros 1 (Value.int .i64 0)).tail = [] := rfl
   have rC9 := (row_below b9 (by omega)).trans rC8
   have rA9 := (row_below b9 (by omega)).trans rA8
   have rX9 := (row_below b9 (by omega)).trans rX8
   have rY9 := (row_below b9 (by omega)).trans rY8
   have rP9 := (row_below b9 (by omega)).trans rP8
   have B9 : Below w.heap.size w w9 := B8.trans (b9.mono B8.size)
   have HS9 := h_ (HS8.out.below b9)
   have cb9 : BelowBut w2.heap.size (w.heap.size + 1) w2 w9 := cb8.trans ((BelowBut.of b9).mono (by have := B8.size; omega))
   have z9 := b9.size
   clear rC8 rA8 rX8 rY8 rP8 HS8 cb8 b9
   obtain ⟨la, lb, hl1⟩ := HS9.out.has x.a x.i
   obtain ⟨k1, hk1⟩ : ∃ c, seen.contains (x.a, x.i) = c := ⟨_, rfl⟩
   rw [hk1] at hl1
   have Hk1 := h_ hk1
   clear hk1
   replace hl1 := hl1 w9 (Below.refl _ _)
   obtain ⟨w10, hw10⟩ : ∃ y, w9.alloc (.cells #[Value.int .i64 la, Value.int .i64 lb] 84) = y := ⟨_, rfl⟩
   have b10 : Below w9.heap.size w9 w10 := by rw [← hw10]; exact ba_
   have rC10 := (row_below b10 (by omega)).trans rC9
   have rA10 := (row_below b10 (by omega)).trans rA9
   have rX10 := (row_below b10 (by omega)).trans rX9
   have rY10 := (row_below b10 (by omega)).trans rY9
   have rP10 := (row_below b10 (by omega)).trans rP9
   have rR10 := (row_below b10 (by omega)).trans rR9
   have B10 : Below w.heap.size w w10 := B9.trans (b10.mono B9.size)
   have HS10 := h_ (HS9.out.below b10)
   have cb10 : BelowBut w2.heap.size (w.heap.size + 1) w2 w10 := cb9.trans ((BelowBut.of b10).mono (by have := B9.size; omega))
   have z10 := b10.size
   clear HS9 cb9 b10
   obtain ⟨lc, ld, hl2⟩ := HS10.out.has x.b x.j
   obtain ⟨k2x, hk2x⟩ : ∃ c, seen.contains (x.b, x.j) = c := ⟨_, rfl⟩
   rw [hk2x] at hl2
   have Hk2x := h_ hk2x
   clear hk2x
   replace hl2 := hl2 w10 (Below.refl _ _)
   obtain ⟨w11, hw11⟩ : ∃ y, w10.alloc (.cells #[Value.int .i64 lc, Value.int .i64 ld] 84) = y := ⟨_, rfl⟩
   have b11 : Below w10.heap.size w10 w11 := by rw [← hw11]; exact ba_
   have rC11 := (row_below b11 (by omega)).trans rC10
   have rA11 := (row_below b11 (by omega)).trans rA10
   have rX11 := (row_below b11 (by omega)).trans rX10
   have rY11 := (row_below b11 (by omega)).trans rY10
   have rP11 := (row_below b11 (by omega)).trans rP10
   have rR11 := (row_below b11 (by omega)).trans rR10
   have B11 : Below w.heap.size w w11 := B10.trans (b11.mono B10.size)
   have HS11 := h_ (HS10.out.below b11)
   have cb11 : BelowBut w2.heap.size (w.heap.size + 1) w2 w11 := cb10.trans ((BelowBut.of b11).mono (by have := B10.size; omega))
   have z11 := b11.size
   clear HS10 cb10 b11
   go_wp2_with fail
   (try rw [hw9])
   (try rw [hw10])
   (try rw [hw11])
   (try clear hw9)
   (try clear hw10)
   (try clear hw11)
   obtain ⟨R, hR⟩ : ∃ b, w8.heap.size = b := ⟨_, rfl⟩
   rw [hR] at rR11 lR
   (try rw [hR])
   have HR := h_ hR
   clear hR hzR
   all_goals have HW := wireOk_eq Hy1.out Hs1.out Hy2.out Hs2x.out Hk1.out Hk2x.out
   all_goals try (refine bodyPost_ret (results_2 rfl resOk_tmp resOk_tmp) rfl ?_; exact ⟨.inl ⟨by rw [HEN.out, endsOk, HW]; simp_all, rfl⟩, B11⟩)
   have hG : GrowP fun W => BelowBut w11.heap.size (w.heap.size + 1) w11 W := fun w w' h hb => h.trans ((BelowBut.of hb).mono h.size)
   refine rgX_ [(X, [Value.int .i64 x.a, Value.int .i64 x.i].toArray), (Y, [Value.int .i64 x.b, Value.int .i64 x.j].toArray)] (fun W => BelowBut w11.heap.size (w.heap.size + 1) w11 W) hG (BelowBut.of (Below.refl _ _)) (fun hS => ?_)
   refine sp 0 hG hS ?_
   refine sp 1 hG hS ?_
   refine sp 2 hG hS ?_
   refine sp 3 hG hS ?_
   refine sp 4 hG hS ?_
   refine sp 5 hG hS ?_
   refine wpAnyR_op1 6 kr_ (fun u hu => ?_)
   replace hu : Below w11.heap.size w11 u := below_step (Below.drew (Below.refl _ _)) hu
   refine wpOp_step rfl (fun K hK => ?_)
   obtain ⟨u2, e6, tu, HSu⟩ := (HS11.out.below hu).put (x.a, x.i) (x.b, x.j)
   unfold plV at e6
   go_simp
   have lM : w.heap.size + 1 < w11.heap.size := by omega
   have nX : X ≠ w.heap.size + 1 := by omega
   have nY : Y ≠ w.heap.size + 1 := by omega
   have zu := hu.size
   have zt := tu.size
   have rXu := (tu.row nX).trans ((row_below hu (by omega)).trans rX11)
   have rYu := (tu.row nY).trans ((row_below hu (by omega)).trans rY11)
   have bu : BelowBut w11.heap.size (w.heap.size + 1) w11 u2 := (BelowBut.of hu).trans ⟨tu.os, tu.tape, tu.output, by omega, fun k _ hne => tu.block k hne⟩
   have hS : XS [(X, [Value.int .i64 x.a, Value.int .i64 x.i].toArray), (Y, [Value.int .i64 x.b, Value.int .i64 x.j].toArray)] (fun W => BelowBut w11.heap.size (w.heap.size + 1) w11 W) u2 := ⟨⟨rXu, by omega, rYu, by omega, trivial⟩, bu⟩
   refine hK _ _ ⟨hS, ?_⟩
   clear hK K e6
   (try simp only [Act.put, List.setIfInBounds_toArray, List.set_cons_zero, List.set_cons_succ])
   refine wpAnyR_op1 7 kr_ (fun u3 hu3 => ?_)
   refine wpOp_step rfl (fun K hK => ?_)
   obtain ⟨u4, e7, tu4, HSv⟩ := (HSu.below hu3).put (x.b, x.j) (x.a, x.i)
   unfold plV at e7
   go_simp
   have zu3 := hu3.size
   have zt4 := tu4.size
   have rXv := (tu4.row nX).trans ((row_below hu3 (by omega)).trans rXu)
   have rYv := (tu4.row nY).trans ((row_below hu3 (by omega)).trans rYu)
   have bv : BelowBut w11.heap.size (w.heap.size + 1) w11 u4 := (bu.trans ((BelowBut.of hu3).mono (by omega))).trans ⟨tu4.os, tu4.tape, tu4.output, by omega, fun k _ hne => tu4.block k hne⟩
   have hS : XS [(X, [Value.int .i64 x.a, Value.int .i64 x.i].toArray), (Y, [Value.int .i64 x.b, Value.int .i64 x.j].toArray)] (fun W => BelowBut w11.heap.size (w.heap.size + 1) w11 W) u4 := ⟨⟨rXv, by omega, rYv, by omega, trivial⟩, bv⟩
   refine hK _ _ ⟨hS, ?_⟩
   clear hK K e7
   (try simp only [Act.put, List.setIfInBounds_toArray, List.set_cons_zero, List.set_cons_succ])
   refine wpAnyR_done kr_ (fun w12 bw12 => ?_) _
   have HS12 := h_ (HSv.swap.below bw12)
   have cb12 := cb11.trans ((bv.trans ((BelowBut.of bw12).mono (by omega))).mono (by omega : w2.heap.size ≤ w11.heap.size))
   have hen2 : endsOk cs ws [] = endsOk cs (ws.drop (j + 1)) ((x.a, x.i) :: (x.b, x.j) :: seen) := by rw [HEN.out, endsOk, HW]; simp_all
   have HE2 := h_ hen2
   clear hS bw12 bv bu rXv rYv rXu rYu HSu HSv tu tu4 hu hu3 hen2 HEN HW
   go_wp2_with fail
   (try simp only [Exit.inBlock, Exit.then])
   (try go_wp2_with fail)
   go_roundw
   case rel => exact ⟨j + 1, _, by omega, by simp, HE2.out, HS12.out, fun h0 => by omega, cb12⟩
   case measure => simp [intOf]; omega
  -- END
  ·
   obtain rfl : j = ws.length := by omega
   have hltI : ¬ (ws.length : Int) < (ws.length : Int) := by omega
   rw [List.drop_length] at hen
   have HSN := h_ hsn
   have HEN := h_ hen
   have HZ := h_ hz
   clear hsn hen hz
   go_wp2_with fail
   go_ret2
   exact ⟨.inr ⟨HEN.out.trans rfl, _, rfl, by omega, seen, HSN.out, fun h0 => HZ.out (by rw [h0]; rfl)⟩, cbw⟩
end
section
open Go.RowKit Go.Shelf
def rightF (r k p d room : Int) (cs : List ConfX) (ws : List WireX) : Bool :=
 decide (1 ≤ cs.length) && decide (cs.length ≤ 16) && (cs.all fun c => madeOk r k p d room c) && endsOk cs ws []
theorem rightF_any (ca : Option Addr) (cc : Nat) (cs : List ConfX) (wa : Option Addr) (wc : Nat) (ws : List WireX) (r k p d room : Int) (seed : List UInt8) (w : World) (h : ConfsAt w ca cs) (hps : ∀ c ∈ cs, c.ps.length ≤ 1000) (hw : WiresAt w wa ws) (hwn : ws.length ≤ 1000) :
  Calls Tryz.prog 21 #[.agg (planV ca cs.length cc wa ws.length wc r k p d room seed).toArray] w fun e w' => e = .returned (.bool (rightF r k p d room cs ws)) ∧ Below w.heap.size w w' := by
 have hm := h.len
 have hmI : (cs.length : Int) ≤ 9223372036854775807 := by unfold maxLen at hm; omega
 clear hm
 unfold planV
 go_enter Tryz.func21, Tryz.ntmps21
 obtain ⟨w1, hw1⟩ : ∃ x, w.alloc (.cells #[Value.slice ca cs.length cc, .slice wa ws.length wc, .int .i64 r, .int .i64 k, .int .i64 p, .int .i64 d, .int .i64 room, .string ⟨seed.toArray⟩] 48) = x := ⟨_, rfl⟩
 have b1 : Below w.heap.size w w1 := by rw [← hw1]; exact ba_
 have z1 : w1.heap.size = w.heap.size + 1 := by rw [← hw1, alloc_sizeW]
 have rC1 : row w1 w.heap.size = #[Value.slice ca cs.length cc, .slice wa ws.length wc, .int .i64 r, .int .i64 k, .int .i64 p, .int .i64 d, .int .i64 room, .string ⟨seed.toArray⟩] := by rw [← hw1]; exact row_alloc_at _ _ _ rfl
 by_cases hl : 1 ≤ cs.length ∧ cs.length ≤ 16
 ·
  obtain ⟨hl1, hl2⟩ := hl
  have hI1 : ¬ (cs.length : Int) < 1 := by omega
  have hI2 : ¬ (16 : Int) < (cs.length : Int) := by omega
  have HL1 := h_ hl1
  have HL2 := h_ hl2
  clear hl1 hl2
  have HR := h_ (show rightF r k p d room cs ws = ((cs.all fun c => madeOk r k p d room c) && endsOk cs ws []) by
   unfold rightF; rw [decide_eq_true HL1.out, decide_eq_true HL2.out]; rfl)
  go_wp2_with fail
  (try rw [hw1])
  clear hw1
  go_loopw [21] (fun i wr => ∃ j : Nat, j ≤ cs.length ∧ i = .int .i64 j ∧ (cs.take j).all (fun c => madeOk r k p d room c) = true ∧ Below w1.heap.size w1 wr) (fun i _ => cs.length - (intOf i).toNat)
  case atStart => exact ⟨0, by omega, rfl, by rw [List.take_zero]; rfl, Below.refl _ _⟩
  case round =>
   obtain ⟨j, hj, rfl, hall, cb⟩ := hrel
   have zb := cb.size
   have rC := (row_below cb (by omega)).trans rC1
   have cbw : Below w.heap.size w wr := b1.trans (cb.mono (by omega))
   have hC := h.below cbw
   have HA := h_ hall
   clear hall
   by_cases hlt : j < cs.length
   ·
    have hltI : (j : Int) < (cs.length : Int) := by omega
    go_wp2_with fail
    have hmd := made_any ca cc cs wa ws.length wc r k p d room seed wr hC j hlt (hps _ (List.getElem_mem hlt))
    unfold planV at hmd
    refine hmd.mono ?_
    have htk : (cs.take (j + 1)).all (fun c => madeOk r k p d room c) = madeOk r k p d room cs[j] := by
     rw [List.take_add_one, List.getElem?_eq_getElem hlt, List.all_append, HA.out]; simp
    have HT := h_ htk
    clear hmd htk
    rintro e w3 ⟨⟨hmk, rfl⟩ | ⟨hmk, N, rfl, _⟩, b3⟩
    ·
     have HM := h_ hmk
     have B3 := cbw.trans (b3.mono cbw.size)
     have hF : (cs.all fun c => madeOk r k p d room c) = false := List.all_eq_false.2 ⟨cs[j], List.getElem_mem hlt, by rw [HM.out]; simp⟩
     have HF := h_ hF
     clear hmk hF
     go_wp2_with fail
     go_ret
     exact ⟨by rw [HR.out, HF.out]; rfl, B3⟩
    ·
     have HM := h_ hmk
     have c3 := cb.trans (b3.mono zb)
     clear hmk
     go_wp2_with fail
     go_roundw
     case rel => exact ⟨j + 1, by omega, by simp, by rw [HT.out, HM.out], c3⟩
     case measure => simp [intOf]; omega
   ·
    obtain rfl : j = cs.length := by omega
    have hltI : ¬ (cs.length : Int) < (cs.length : Int) := by omega
    go_wp2_with fail
    have hep := endsP_any ca cc cs wa wc ws r k p d room seed wr hC (hw.below cbw) hwn
    unfold planV at hep
    refine hep.mono ?_
    rw [List.take_length] at HA
    rintro e w3 ⟨⟨hek, rfl⟩ | ⟨hek, M, rfl, _⟩, b3⟩
    all_goals
     have HE := h_ hek
     have B3 := cbw.trans (b3.mono cbw.size)
     clear hek hep
     go_wp2_with fail
     go_ret
     exact ⟨by rw [HR.out, HA.out, HE.out]; rfl, B3⟩
 ·
  have HR := h_ (show rightF r k p d room cs ws = false by
   unfold rightF
   by_cases h1 : 1 ≤ cs.length
   ·
    have h2 : ¬ cs.length ≤ 16 := fun h2 => hl ⟨h1, h2⟩
    rw [decide_eq_false h2]; simp
   ·
    rw [decide_eq_false h1]; rfl)
  have hcl : (cs.length : Int) < 1 ∨ 16 < (cs.length : Int) := by omega
  rcases hcl with hI | hI
  ·
   go_wp2_with fail
   all_goals (go_ret; exact ⟨by rw [HR.out]; rfl, b1⟩)
  ·
   have hI1 : ¬ (cs.length : Int) < 1 := by omega
   go_wp2_with fail
   all_goals (go_ret; exact ⟨by rw [HR.out]; rfl, b1⟩)
end
section
open Go.RowKit Go.Shelf
theorem eql_nil_conf (w : World) (a : Option Addr) (n c : Nat) : (binOp .eql 43 (.slice a n c) (.slice none 0 0)).run Tryz.prog w = .ok (.bool a.isNone) w := by
 have ht := Tryz.underlying43
 have h : ∀ d : Nat, (Op.equalIn (d + 1) 43 (.slice a n c) (.slice none 0 0)).run Tryz.prog w = .ok a.isNone w := fun d => by
  cases a <;> simp [Op.equalIn, run_underlying ht]
 simp only [binOp]
 simp [Op.equal, Op.maxDepth, h 9999]
theorem clone_conf (a : Option Addr) (cap : Nat) (l : List (List Value)) (w : World) (h : ElemsAt w a 13 l) (hl : ∀ x ∈ l, x.length = 13 ∧ ones x = true) (hs : l.length ≤ 1000) :
  Calls Tryz.prog 56 #[.slice a l.length cap] w fun e w' => (∃ v, e = .returned v ∧ OwnL w' w.heap.size 106 13 v l) ∧ Below w.heap.size w w' := by
 have hlI : (l.length : Int) ≤ 1000 := by omega
 cases a with
 | none =>
  have hl0 : l = [] := by
   cases l with
   | nil => rfl
   | cons x l =>
    obtain ⟨b, off, e, _⟩ := h.2 0 x rfl
    cases e
  subst hl0
  have hq := eql_nil_conf w none 0 cap
  go_enter Tryz.func56, Tryz.ntmps56
  go_wp2_with fail
  go_ret
  exact ⟨⟨_, rfl, OwnL.nil _ _ _ _⟩, Below.refl _ _⟩
 | some ad =>
  have hq := eql_nil_conf w (some ad) l.length cap
  obtain ⟨X, hX⟩ : ∃ y, w.alloc (.cells #[] 106) = y := ⟨_, rfl⟩
  have bX : Below w.heap.size w X := by rw [← hX]; exact ba_
  have oX : OwnL X w.heap.size 106 13 (.slice (some ⟨w.heap.size, 0, none⟩) 0 0) [] := by rw [← hX]; exact ⟨by simp, by simp, .inr ⟨w.heap.size, 0, #[], rfl, Nat.le_refl _, heap_alloc_new w _, Nat.le_refl _, by unfold maxLen; omega, by simp, by simp⟩⟩
  have zX := bX.size
  have H := h_ (h.below bX)
  have HL := h_ hl
  have HS := h_ (show ([] : List (List Value)).length + l.length ≤ 10000 by simp; omega)
  clear h hl hs
  go_enter Tryz.func56, Tryz.ntmps56
  go_wp2_with (at_builtin; go_loud ((try rw [hX]); refine wpList_appendAt (bytes := 64) rfl rfl Tryz.underlying43 fconfInfo (by decide) (by decide) w.heap.size _ [] rfl oX ad cap l rfl (fun x hx => (HL.out x hx).1) H.out (fun x hx => (HL.out x hx).2) HS.out zX ?_))
  intro v1 w1 o1 b1
  have O1 := h_ o1
  have B1 := bX.trans (b1.mono (Nat.le_refl _))
  clear o1 b1 oX bX
  go_wp2_with fail
  go_ret
  exact ⟨⟨_, rfl, O1.out⟩, B1⟩
theorem eql_nil_cport (w : World) (a : Option Addr) (n c : Nat) : (binOp .eql 104 (.slice a n c) (.slice none 0 0)).run Tryz.prog w = .ok (.bool a.isNone) w := by
 have ht := Tryz.underlying104
 have h : ∀ d : Nat, (Op.equalIn (d + 1) 104 (.slice a n c) (.slice none 0 0)).run Tryz.prog w = .ok a.isNone w := fun d => by
  cases a <;> simp [Op.equalIn, run_underlying ht]
 simp only [binOp]
 simp [Op.equal, Op.maxDepth, h 9999]
theorem clone_cport (a : Option Addr) (cap : Nat) (l : List (List Value)) (w : World) (h : ElemsAt w a 39 l) (hl : ∀ x ∈ l, x.length = 39 ∧ ones x = true) (hs : l.length ≤ 1000) :
  Calls Tryz.prog 57 #[.slice a l.length cap] w fun e w' => (∃ v, e = .returned v ∧ OwnL w' w.heap.size 137 39 v l) ∧ Below w.heap.size w w' := by
 have hlI : (l.length : Int) ≤ 1000 := by omega
 cases a with
 | none =>
  have hl0 : l = [] := by
   cases l with
   | nil => rfl
   | cons x l =>
    obtain ⟨b, off, e, _⟩ := h.2 0 x rfl
    cases e
  subst hl0
  have hq := eql_nil_cport w none 0 cap
  go_enter Tryz.func57, Tryz.ntmps57
  go_wp2_with fail
  go_ret
  exact ⟨⟨_, rfl, OwnL.nil _ _ _ _⟩, Below.refl _ _⟩
 | some ad =>
  have hq := eql_nil_cport w (some ad) l.length cap
  obtain ⟨X, hX⟩ : ∃ y, w.alloc (.cells #[] 137) = y := ⟨_, rfl⟩
  have bX : Below w.heap.size w X := by rw [← hX]; exact ba_
  have oX : OwnL X w.heap.size 137 39 (.slice (some ⟨w.heap.size, 0, none⟩) 0 0) [] := by rw [← hX]; exact ⟨by simp, by simp, .inr ⟨w.heap.size, 0, #[], rfl, Nat.le_refl _, heap_alloc_new w _, Nat.le_refl _, by unfold maxLen; omega, by simp, by simp⟩⟩
  have zX := bX.size
  have H := h_ (h.below bX)
  have HL := h_ hl
  have HS := h_ (show ([] : List (List Value)).length + l.length ≤ 10000 by simp; omega)
  clear h hl hs
  go_enter Tryz.func57, Tryz.ntmps57
  go_wp2_with (at_builtin; go_loud ((try rw [hX]); refine wpList_appendAt (bytes := 104) rfl rfl Tryz.underlying104 xportInfo (by decide) (by decide) w.heap.size _ [] rfl oX ad cap l rfl (fun x hx => (HL.out x hx).1) H.out (fun x hx => (HL.out x hx).2) HS.out zX ?_))
  intro v1 w1 o1 b1
  have O1 := h_ o1
  have B1 := bX.trans (b1.mono (Nat.le_refl _))
  clear o1 b1 oX bX
  go_wp2_with fail
  go_ret
  exact ⟨⟨_, rfl, O1.out⟩, B1⟩
theorem eql_nil_wire (w : World) (a : Option Addr) (n c : Nat) : (binOp .eql 44 (.slice a n c) (.slice none 0 0)).run Tryz.prog w = .ok (.bool a.isNone) w := by
 have ht := Tryz.underlying44
 have h : ∀ d : Nat, (Op.equalIn (d + 1) 44 (.slice a n c) (.slice none 0 0)).run Tryz.prog w = .ok a.isNone w := fun d => by
  cases a <;> simp [Op.equalIn, run_underlying ht]
 simp only [binOp]
 simp [Op.equal, Op.maxDepth, h 9999]
theorem clone_wire (a : Option Addr) (cap : Nat) (l : List (List Value)) (w : World) (h : ElemsAt w a 4 l) (hl : ∀ x ∈ l, x.length = 4 ∧ ones x = true) (hs : l.length ≤ 1000) :
  Calls Tryz.prog 55 #[.slice a l.length cap] w fun e w' => (∃ v, e = .returned v ∧ OwnL w' w.heap.size 109 4 v l) ∧ Below w.heap.size w w' := by
 have hlI : (l.length : Int) ≤ 1000 := by omega
 cases a with
 | none =>
  have hl0 : l = [] := by
   cases l with
   | nil => rfl
   | cons x l =>
    obtain ⟨b, off, e, _⟩ := h.2 0 x rfl
    cases e
  subst hl0
  have hq := eql_nil_wire w none 0 cap
  go_enter Tryz.func55, Tryz.ntmps55
  go_wp2_with fail
  go_ret
  exact ⟨⟨_, rfl, OwnL.nil _ _ _ _⟩, Below.refl _ _⟩
 | some ad =>
  have hq := eql_nil_wire w (some ad) l.length cap
  obtain ⟨X, hX⟩ : ∃ y, w.alloc (.cells #[] 109) = y := ⟨_, rfl⟩
  have bX : Below w.heap.size w X := by rw [← hX]; exact ba_
  have oX : OwnL X w.heap.size 109 4 (.slice (some ⟨w.heap.size, 0, none⟩) 0 0) [] := by rw [← hX]; exact ⟨by simp, by simp, .inr ⟨w.heap.size, 0, #[], rfl, Nat.le_refl _, heap_alloc_new w _, Nat.le_refl _, by unfold maxLen; omega, by simp, by simp⟩⟩
  have zX := bX.size
  have H := h_ (h.below bX)
  have HL := h_ hl
  have HS := h_ (show ([] : List (List Value)).length + l.length ≤ 10000 by simp; omega)
  clear h hl hs
  go_enter Tryz.func55, Tryz.ntmps55
  go_wp2_with (at_builtin; go_loud ((try rw [hX]); refine wpList_appendAt (bytes := 32) rfl rfl Tryz.underlying44 fwireInfo (by decide) (by decide) w.heap.size _ [] rfl oX ad cap l rfl (fun x hx => (HL.out x hx).1) H.out (fun x hx => (HL.out x hx).2) HS.out zX ?_))
  intro v1 w1 o1 b1
  have O1 := h_ o1
  have B1 := bX.trans (b1.mono (Nat.le_refl _))
  clear o1 b1 oX bX
  go_wp2_with fail
  go_ret
  exact ⟨⟨_, rfl, O1.out⟩, B1⟩
end
section
open Go.RowKit Go.Shelf
theorem PXOff.more {S T : List Nat} {w : World} {pa : Option Addr} {ps : List PortX} (h : PXOff S w pa ps) (hT : ∀ x ∈ T, x ∈ S ∨ w.heap.size ≤ x) : PXOff T w pa ps := by
 refine ⟨h.1, fun i p hp => ?_⟩
 obtain ⟨b, off, ta, cap, e, hl, hn, hr, ht⟩ := h.2 i p hp
 refine ⟨b, off, ta, cap, e, hl, fun hm => ?_, hr, ht.more hT⟩
 rcases hT b hm with h1 | h1
 ·
  exact hn h1
 ·
  omega
def ConfsO (S : List Nat) (w : World) (B : Nat) (v : Value) (cs : List ConfX) : Prop :=
 ∃ rows : List (List Value), OwnL w B 106 13 v rows ∧ rows.length = cs.length ∧ ∀ (i : Nat) (c : ConfX), cs[i]? = some c → ∃ pa cap, rows[i]? = some (confXV pa cap c) ∧ PXOff S w pa c.ps
theorem ConfsO.at {S : List Nat} {w : World} {B : Nat} {v : Value} {cs : List ConfX} (h : ConfsO S w B v cs) : ∃ a cap, v = .slice a cs.length cap ∧ ConfsAt w a cs := by
 obtain ⟨rows, ho, hl, hr⟩ := h
 obtain ⟨a, cap, e, he⟩ := ho.elems
 refine ⟨a, cap, by rw [e, hl], rows, hl, he, fun i c hc => ?_⟩
 obtain ⟨pa, cap, e1, e2⟩ := hr i c hc
 exact ⟨pa, cap, e1, e2.more fun x hx => by cases hx⟩
theorem ConfsO.kept {S : List Nat} {w w' : World} {B : Nat} {v : Value} {cs : List ConfX} (h : ConfsO S w B v cs) (hb : BelowS w.heap.size S w w') (hv : ∀ k, v.ownBlock = some k → w'.heap[k]? = w.heap[k]?) : ConfsO S w' B v cs := by
 obtain ⟨rows, ho, hl, hr⟩ := h
 exact ⟨rows, ho.keep hv, hl, fun i c hc => by obtain ⟨pa, cap, e1, e2⟩ := hr i c hc; exact ⟨pa, cap, e1, e2.kept hb⟩⟩
theorem ConfsO.get {S : List Nat} {w : World} {B g gc : Nat} {cs : List ConfX} (h : ConfsO S w B (.slice (some ⟨g, 0, none⟩) cs.length gc) cs) {i : Nat} (hi : i < cs.length) : g < w.heap.size ∧ ∃ pa cap, PXOff S w pa cs[i].ps ∧ ∀ W : World, W.heap[g]? = w.heap[g]? → W.rangeAt g (i * 13) (confXV pa cap cs[i]) := by
 obtain ⟨rows, ho, hl, hr⟩ := h
 obtain ⟨a', c', e, he⟩ := ho.elems
 simp only [Value.slice.injEq] at e
 obtain ⟨rfl, _, rfl⟩ := e
 obtain ⟨pa, cap, e1, e2⟩ := hr i cs[i] (List.getElem?_eq_getElem hi)
 obtain ⟨b, off, e3, hb, hra⟩ := he.2 i _ e1
 simp only [Option.some.injEq, Addr.mk.injEq, and_true] at e3
 obtain ⟨rfl, rfl⟩ := e3
 exact ⟨hb, pa, cap, e2, fun W hW => by have := hra W hW; rwa [Nat.zero_add] at this⟩
theorem ConfsO.turn {S : List Nat} {w : World} {B g gc : Nat} {cs : List ConfX} (h : ConfsO S w B (.slice (some ⟨g, 0, none⟩) cs.length gc) cs) {i : Nat} (hi : i < cs.length) :
  ∃ cur, w.heap[g]? = some (.cells cur 106 (0, 0)) ∧ row w g = cur ∧ i * 13 + 12 < cur.size ∧ ∀ (w' : World) (pa : Option Addr) (cap : Nat), BelowS w.heap.size S w w' → w'.heap[g]? = some (.cells (cur.setIfInBounds (i * 13 + 12) (.slice pa cs[i].ps.length cap)) 106 (0, 0)) → PXOff S w' pa cs[i].ps → ConfsO S w' B (.slice (some ⟨g, 0, none⟩) cs.length gc) cs := by
 obtain ⟨rows, ho, hl, hr⟩ := h
 obtain ⟨_, _, cur, hcur⟩ := ho.blk rfl
 have hrow : row w g = cur := by
  unfold row
  rw [hcur]
  simp
 refine ⟨cur, hcur, hrow, ?_, fun w' pa cap hb hg hp => ?_⟩
 ·
  obtain ⟨g', gc', cur', e, _, _, h1, h2, h3⟩ := ho.setCell (k := i) (q := 12) (by omega) (by decide) (.bool true)
  simp only [Value.slice.injEq, Option.some.injEq, Addr.mk.injEq, and_true] at e
  obtain ⟨rfl, _, rfl⟩ := e
  rw [← hrow, h1]
  exact h2
 ·
  obtain ⟨g', gc', cur', e, _, _, h1, h2, h3⟩ := ho.setCell (k := i) (q := 12) (by omega) (by decide) (.slice pa cs[i].ps.length cap)
  simp only [Value.slice.injEq, Option.some.injEq, Addr.mk.injEq, and_true] at e
  obtain ⟨rfl, _, rfl⟩ := e
  obtain rfl : cur = cur' := hrow.symm.trans h1
  refine ⟨_, h3.keep (w' := w') fun k hk => ?_, by rw [List.length_modify]; exact hl, fun m c hc => ?_⟩
  ·
   simp only [Value.ownBlock, Option.some.injEq] at hk
   subst hk
   rw [hg, setRow_heap w g cur _ _ _ hcur]
  ·
   obtain ⟨pa', cap', e1, e2⟩ := hr m c hc
   by_cases hm : i = m
   ·
    subst hm
    rw [List.getElem?_eq_getElem hi, Option.some.injEq] at hc
    subst hc
    refine ⟨pa, cap, ?_, hp⟩
    rw [List.getElem?_modify, e1]
    simp [confXV, confV]
   ·
    refine ⟨pa', cap', ?_, e2.kept hb⟩
    rw [List.getElem?_modify, e1]
    simp [hm]
def PortsO (S : List Nat) (w : World) (B : Nat) (v : Value) (ps : List PortX) : Prop :=
 ∃ rows : List (List Value), OwnL w B 137 39 v rows ∧ rows.length = ps.length ∧ ∀ (q : Nat) (x : PortX), ps[q]? = some x → ∃ ta tc, rows[q]? = some (portXV ta tc x) ∧ ElemsOff S w ta 1 (x.p.tagged.map fun v => [Value.int .i64 v])
theorem PortsO.below {S : List Nat} {w w' : World} {B : Nat} {v : Value} {ps : List PortX} (h : PortsO S w B v ps) (hb : Below w.heap.size w w') : PortsO S w' B v ps := by
 obtain ⟨rows, ho, hl, hr⟩ := h
 exact ⟨rows, ho.below hb, hl, fun i c hc => by obtain ⟨pa, cap, e1, e2⟩ := hr i c hc; exact ⟨pa, cap, e1, e2.below hb⟩⟩
theorem PortsO.px {S : List Nat} {w : World} {B : Nat} {pa : Option Addr} {cap : Nat} {ps : List PortX} (h : PortsO S w B (.slice pa ps.length cap) ps) (hn : ps.length ≤ 1000) (T : List Nat) (hT1 : ∀ x ∈ T, x ∈ S) (hT2 : ∀ s ∈ T, s < B ∨ w.heap.size ≤ s) : PXOff T w pa ps := by
 obtain ⟨prow, ho, hl, hr⟩ := h
 obtain ⟨a', c', e, he⟩ := ho.off T hT2
 simp only [Value.slice.injEq] at e
 obtain ⟨rfl, _, rfl⟩ := e
 refine ⟨by unfold maxLen; omega, fun q r hq => ?_⟩
 obtain ⟨ta, tc, e1, e2⟩ := hr q r hq
 obtain ⟨b, off, e3, hb2, hn2, hra⟩ := he.2 q _ e1
 exact ⟨b, off, ta, tc, e3, hb2, hn2, hra, e2.more fun x hx => .inl (hT1 x hx)⟩
theorem PortsO.set {S : List Nat} {w : World} {B : Nat} {pa : Option Addr} {gc : Nat} {ps : List PortX} (h : PortsO S w B (.slice pa ps.length gc) ps) {q : Nat} (hq : q < ps.length) :
  ∃ g, pa = some ⟨g, 0, none⟩ ∧ B ≤ g ∧ g < w.heap.size ∧ ∃ cur, row w g = cur ∧ q * 39 + 1 < cur.size ∧ (g ∈ S → ∀ (ta : Option Addr) (tc : Nat), ElemsOff S w ta 1 (ps[q].p.tagged.map fun v => [Value.int .i64 v]) → PortsO S (w.setRow g (cur.setIfInBounds (q * 39 + 1) (.slice ta ps[q].p.tagged.length tc))) B (.slice pa ps.length gc) ps) := by
 obtain ⟨rows, ho, hl, hr⟩ := h
 obtain ⟨g', gc', cur, e, hB, hz, h1, h2, _⟩ := ho.setCell (k := q) (q := 1) (by omega) (by decide) (.bool true)
 simp only [Value.slice.injEq] at e
 obtain ⟨rfl, _, rfl⟩ := e
 refine ⟨g', rfl, hB, hz, cur, h1, h2, fun hg ta tc ht => ?_⟩
 obtain ⟨g2, gc2, cur2, e', _, _, h1', _, h3⟩ := ho.setCell (k := q) (q := 1) (by omega) (by decide) (.slice ta ps[q].p.tagged.length tc)
 simp only [Value.slice.injEq, Option.some.injEq, Addr.mk.injEq, and_true] at e'
 obtain ⟨rfl, _, rfl⟩ := e'
 obtain rfl : cur = cur2 := h1.symm.trans h1'
 refine ⟨_, h3, by rw [List.length_modify]; exact hl, fun m x hx => ?_⟩
 obtain ⟨ta', tc', e1, e2⟩ := hr m x hx
 by_cases hm : q = m
 ·
  subst hm
  rw [List.getElem?_eq_getElem hq, Option.some.injEq] at hx
  subst hx
  refine ⟨ta, tc, ?_, ht.kept (BelowS.set w _ hg)⟩
  rw [List.getElem?_modify, e1]
  simp [portXV]
 ·
  refine ⟨ta', tc', ?_, e2.kept (BelowS.set w _ hg)⟩
  rw [List.getElem?_modify, e1]
  simp [hm]
theorem PXOff.rows {S : List Nat} {w : World} {pa : Option Addr} {ps : List PortX} (h : PXOff S w pa ps) : ∃ rows : List (List Value), rows.length = ps.length ∧ ElemsAt w pa 39 rows ∧ ∀ (q : Nat) (x : PortX), ps[q]? = some x → ∃ ta tc, rows[q]? = some (portXV ta tc x) ∧ ElemsOff S w ta 1 (x.p.tagged.map fun v => [Value.int .i64 v]) := by
 have hc : ∀ i : Nat, ∃ x : List Value, ∀ r, ps[i]? = some r → ∃ b off ta tc, pa = some ⟨b, off, none⟩ ∧ b < w.heap.size ∧ (∀ W, blk W b = blk w b → W.rangeAt b (off + i * 39) x) ∧ x = portXV ta tc r ∧ ElemsOff S w ta 1 (r.p.tagged.map fun v => [Value.int .i64 v]) := by
  intro i
  cases hr : ps[i]? with
  | none => exact ⟨[], fun r h => by cases h⟩
  | some r =>
   obtain ⟨b, off, ta, tc, e, hl, _, hra, ht⟩ := h.2 i r hr
   exact ⟨portXV ta tc r, fun r' h' => by cases h'; exact ⟨b, off, ta, tc, e, hl, hra, rfl, ht⟩⟩
 refine ⟨(List.range ps.length).map fun i => Classical.choose (hc i), by simp, ⟨by simpa using h.1, fun i x hx => ?_⟩, fun i r hr => ?_⟩
 ·
  have hi : i < ps.length := by
   have := (List.getElem?_eq_some_iff.1 hx).1
   simpa using this
  rw [List.getElem?_map, List.getElem?_range hi] at hx
  simp only [Option.map_some, Option.some.injEq] at hx
  subst hx
  obtain ⟨b, off, ta, tc, e, hl, hra, _, _⟩ := Classical.choose_spec (hc i) ps[i] (List.getElem?_eq_getElem hi)
  exact ⟨b, off, e, hl, hra⟩
 ·
  have hi : i < ps.length := (List.getElem?_eq_some_iff.1 hr).1
  obtain ⟨b, off, ta, tc, e, hl, hra, h1, h2⟩ := Classical.choose_spec (hc i) r hr
  refine ⟨ta, tc, ?_, h2⟩
  rw [List.getElem?_map, List.getElem?_range hi, Option.map_some, h1]
theorem portXV_ones (ta : Option Addr) (tc : Nat) (x : PortX) : (portXV ta tc x).length = 39 ∧ ones (portXV ta tc x) = true := by
 simp [portXV]
theorem confXV_ones (pa : Option Addr) (cap : Nat) (c : ConfX) : (confXV pa cap c).length = 13 ∧ ones (confXV pa cap c) = true := by
 simp [confXV, confV]
theorem ints_of {S : List Nat} {w : World} {a : Option Addr} {l : List Int} (h : ElemsOff S w a 1 (l.map fun v => [Value.int .i64 v])) : IntsAt w a l := h.elems
end
section
open Go.RowKit Go.Shelf
theorem copied_any (ca : Option Addr) (cc : Nat) (cs : List ConfX) (wa : Option Addr) (wc : Nat) (ws : List WireX) (r k p d room : Int) (seed : List UInt8) (w : World) (h : ConfsAt w ca cs) (hps : ∀ c ∈ cs, c.ps.length ≤ 1000 ∧ ∀ x ∈ c.ps, x.p.tagged.length ≤ 1000) (hw : WiresAt w wa ws) (hn1 : 1 ≤ cs.length) (hn : cs.length ≤ 1000) (hwn : ws.length ≤ 1000) :
  Calls Tryz.prog 36 #[.agg (planV ca cs.length cc wa ws.length wc r k p d room seed).toArray] w fun e w' => (∃ ca' wa', (∃ cc' wc', e = .returned (.agg (planV ca' cs.length cc' wa' ws.length wc' r k p d room seed).toArray)) ∧ ConfsAt w' ca' cs ∧ WiresAt w' wa' ws) ∧ Below w.heap.size w w' := by
 have hnI : (cs.length : Int) ≤ 1000 := by omega
 have hwnI : (ws.length : Int) ≤ 1000 := by omega
 unfold planV
 go_enter Tryz.func36, Tryz.ntmps36
 obtain ⟨w2, hw2⟩ : ∃ x, (w.alloc (.cells #[Value.slice ca cs.length cc, .slice wa ws.length wc, .int .i64 r, .int .i64 k, .int .i64 p, .int .i64 d, .int .i64 room, .string ⟨seed.toArray⟩] 48)).alloc (.cells (zeros 2 (Value.slice none 0 0) ++ (zeros 5 (Value.int .i64 0) ++ [Value.string ⟨#[]⟩])).toArray 48) = x := ⟨_, rfl⟩
 have b2 : Below w.heap.size w w2 := by rw [← hw2]; exact Below.alloc (ba_) (by simp) _
 have z2 : w2.heap.size = w.heap.size + 2 := by rw [← hw2, alloc_sizeW, alloc_sizeW]
 have rP2 : row w2 w.heap.size = #[Value.slice ca cs.length cc, .slice wa ws.length wc, .int .i64 r, .int .i64 k, .int .i64 p, .int .i64 d, .int .i64 room, .string ⟨seed.toArray⟩] := by rw [← hw2]; simp [go_sem]
 have rR2 : row w2 (w.heap.size + 1) = (zeros 2 (Value.slice none 0 0) ++ (zeros 5 (Value.int .i64 0) ++ [Value.string ⟨#[]⟩])).toArray := by rw [← hw2]; simp [go_sem]
 have hcw := clone_wire wa wc (ws.map wireC) w2 (hw.below b2) (fun x hx => by obtain ⟨y, _, rfl⟩ := List.mem_map.1 hx; exact ⟨rfl, rfl⟩) (by simpa using hwn)
 rw [List.length_map] at hcw
 have HCW := h_ hcw
 clear hcw
 have HZ2 := h_ z2
 have lP2 : w.heap.size < w2.heap.size := by omega
 have lR2 : w.heap.size + 1 < w2.heap.size := by omega
 clear z2
 go_wp2_with fail
 (try rw [hw2])
 (try clear hw2)
 (with_reducible refine HCW.out.mono ?_)
 rintro e w3 ⟨⟨v3, rfl, o3⟩, b3⟩
 obtain ⟨wa3, wc3, e3, _⟩ := o3.elems
 rw [List.length_map] at e3
 subst e3
 have z3 := b3.size
 have rP3 := (row_below b3 lP2).trans rP2
 have rR3 := (row_below b3 lR2).trans rR2
 obtain ⟨w4, hw4⟩ : ∃ x, w3.setRow w.heap.size #[Value.slice ca cs.length cc, .slice wa3 ws.length wc3, .int .i64 r, .int .i64 k, .int .i64 p, .int .i64 d, .int .i64 room, .string ⟨seed.toArray⟩] = x := ⟨_, rfl⟩
 have rP4 : row w4 w.heap.size = #[Value.slice ca cs.length cc, .slice wa3 ws.length wc3, .int .i64 r, .int .i64 k, .int .i64 p, .int .i64 d, .int .i64 room, .string ⟨seed.toArray⟩] := by rw [← hw4]; exact row_setRow_same (by rw [rP3]; simp) (by rw [rP3]; simp)
 have rR4 : row w4 (w.heap.size + 1) = (zeros 2 (Value.slice none 0 0) ++ (zeros 5 (Value.int .i64 0) ++ [Value.string ⟨#[]⟩])).toArray := by rw [← hw4, row_setRow_other _ _ _ (by omega)]; exact rR3
 have z4 : w4.heap.size = w3.heap.size := by rw [← hw4, setRow_size]
 have b4 : Below w.heap.size w w4 := by rw [← hw4]; exact Below.setRow (b2.trans (b3.mono b2.size)) (Nat.le_refl _) _
 have o4 : OwnL w4 w2.heap.size 109 4 (.slice wa3 ws.length wc3) (ws.map wireC) := by rw [← hw4]; exact o3.keep fun kk hk => setRow_block_other _ _ _ (by have := (o3.blk hk).1; omega)
 have HO4 := h_ o4
 have k24 : w2.heap.size ≤ w4.heap.size := by omega
 obtain ⟨rows, hrl, hat, hrr⟩ := h
 have HRR := h_ hrr
 have hcc := clone_conf ca cc rows w4 (hat.below b4) (fun x hx => by
  obtain ⟨i, hi, rfl⟩ := List.getElem_of_mem hx
  have hi2 : i < cs.length := by omega
  obtain ⟨pa, cap, e1, _⟩ := HRR.out i cs[i] (List.getElem?_eq_getElem hi2)
  rw [List.getElem?_eq_getElem hi, Option.some.injEq] at e1
  rw [e1]
  exact confXV_ones _ _ _) (by omega)
 rw [hrl] at hcc
 have HCC := h_ hcc
 clear hcc o4 o3 hrr z4 z3 rR3 rP2 rR2 b3 HCW
 go_wp2_with fail
 (try rw [hw4])
 clear hw4 rP3
 (with_reducible refine HCC.out.mono ?_)
 rintro e w5 ⟨⟨v5, rfl, o5⟩, b5⟩
 obtain ⟨g, gc, rfl, hg4, hg5⟩ : ∃ g gc, v5 = .slice (some ⟨g, 0, none⟩) cs.length gc ∧ w4.heap.size ≤ g ∧ g < w5.heap.size := by
  have o := o5
  obtain ⟨_, hlen, ⟨rfl, h0⟩ | ⟨g, cap, cur, rfl, hg0, hg, _⟩⟩ := o
  ·
   omega
  ·
   exact ⟨g, cap, by rw [hrl], hg0, (o5.blk rfl).2.1⟩
 have z5 := b5.size
 have rP5 := (row_below b5 (show w.heap.size < w4.heap.size by omega)).trans rP4
 have rR5 := (row_below b5 (show w.heap.size + 1 < w4.heap.size by omega)).trans rR4
 obtain ⟨w6, hw6⟩ : ∃ x, w5.setRow w.heap.size #[Value.slice (some ⟨g, 0, none⟩) cs.length gc, .slice wa3 ws.length wc3, .int .i64 r, .int .i64 k, .int .i64 p, .int .i64 d, .int .i64 room, .string ⟨seed.toArray⟩] = x := ⟨_, rfl⟩
 have rP6 : row w6 w.heap.size = #[Value.slice (some ⟨g, 0, none⟩) cs.length gc, .slice wa3 ws.length wc3, .int .i64 r, .int .i64 k, .int .i64 p, .int .i64 d, .int .i64 room, .string ⟨seed.toArray⟩] := by rw [← hw6]; exact row_setRow_same (by rw [rP5]; simp) (by rw [rP5]; simp)
 have b6 : Below w.heap.size w w6 := by rw [← hw6]; exact Below.setRow (b4.trans (b5.mono b4.size)) (Nat.le_refl _) _
 have cb6 : BelowBut w4.heap.size w.heap.size w4 w6 := by rw [← hw6]; exact (BelowBut.of b5).trans (BelowBut.set _ _)
 have z6 : w6.heap.size = w5.heap.size := by rw [← hw6, setRow_size]
 have hC6 : ConfsO [w.heap.size, w.heap.size + 1, g] w6 w4.heap.size (.slice (some ⟨g, 0, none⟩) cs.length gc) cs := by
  refine ⟨rows, ?_, hrl, fun i c hc => ?_⟩
  ·
   rw [← hw6]; exact o5.keep fun kk hk => setRow_block_other _ _ _ (by have := (o5.blk hk).1; omega)
  ·
   obtain ⟨pa, cap, e1, e2⟩ := HRR.out i c hc
   exact ⟨pa, cap, e1, (e2.more (T := [w.heap.size, w.heap.size + 1, g]) (fun x hx => .inr (by
    simp only [List.mem_cons, List.not_mem_nil, or_false] at hx
    rcases hx with rfl | rfl | rfl <;> omega))).below b6⟩
 have HC6 := h_ hC6
 have kP4 : w.heap.size < w4.heap.size := by omega
 have kR4 : w.heap.size + 1 < w4.heap.size := by omega
 have kg6 : g < w6.heap.size := by omega
 have k46 : w4.heap.size ≤ w6.heap.size := by omega
 clear hC6 o5 HRR hat hrl rows z6 z5 rR5 b5 HCC HZ2 k24 lP2 rP4
 go_wp2_with fail
 (try rw [hw6])
 clear hw6 rP5
 go_loopw [18] (fun i wr => ∃ j : Nat, j ≤ cs.length ∧ i = .int .i64 j ∧ ConfsO [w.heap.size, w.heap.size + 1, g] wr w4.heap.size (.slice (some ⟨g, 0, none⟩) cs.length gc) cs ∧ row wr w.heap.size = #[Value.slice (some ⟨g, 0, none⟩) cs.length gc, .slice wa3 ws.length wc3, .int .i64 r, .int .i64 k, .int .i64 p, .int .i64 d, .int .i64 room, .string ⟨seed.toArray⟩] ∧ BelowBut w4.heap.size w.heap.size w4 wr ∧ w6.heap.size ≤ wr.heap.size) (fun i _ => cs.length - (intOf i).toNat)
 case atStart => exact ⟨0, by omega, rfl, HC6.out, rP6, cb6, Nat.le_refl _⟩
 case round =>
  obtain ⟨j, hj, rfl, hC, rP, cb, zr⟩ := hrel
  have cbw : Below w.heap.size w wr := b4.trans ((cb.mono (show w.heap.size ≤ w4.heap.size by omega)).below (by omega))
  have rR := (cb.row kR4 (by omega)).trans rR4
  by_cases hlt : j < cs.length
  ·
   have hltI : (j : Int) < (cs.length : Int) := by omega
   obtain ⟨hg, pa, pc, hpx, hra⟩ := hC.get hlt
   obtain ⟨cur, hcur, hrow, hci, hturn⟩ := hC.turn hlt
   obtain ⟨c, hc⟩ : ∃ c, cs[j] = c := ⟨_, rfl⟩
   obtain ⟨hpl, htl⟩ := hps c (hc ▸ List.getElem_mem hlt)
   rw [hc] at hpx hra hturn
   have hplI : (c.ps.length : Int) ≤ 1000 := by omega
   have hld := conf_load (hra wr rfl)
   unfold confXV confV at hld
   obtain ⟨w7, hw7⟩ : ∃ x, wr.alloc (.cells (u8v c.id ++ [Value.int .i64 c.ma, Value.int .i64 c.he, Value.int .i64 c.de, Value.int .i64 c.ageing, Value.slice pa c.ps.length pc]).toArray 106) = x := ⟨_, rfl⟩
   have b7 : Below wr.heap.size wr w7 := by rw [← hw7]; exact ba_
   have r7 : row w7 wr.heap.size = (u8v c.id ++ [Value.int .i64 c.ma, Value.int .i64 c.he, Value.int .i64 c.de, Value.int .i64 c.ageing, Value.slice pa c.ps.length pc]).toArray := by rw [← hw7]; exact row_alloc_at _ _ _ rfl
   have z7 : wr.heap.size < w7.heap.size := by rw [← hw7, alloc_sizeW]; omega
   have rP7 := (row_below b7 (show w.heap.size < wr.heap.size by omega)).trans rP
   have hP0 : ∀ W, Below w7.heap.size w7 W → W.cell? ⟨w.heap.size, 0, none⟩ = some (.slice (some ⟨g, 0, none⟩) cs.length gc) := fun W hW => by
    have e := (row_below hW (show w.heap.size < w7.heap.size by omega)).trans rP7
    rw [cell_of_row' (by rw [e]; simp), e]; rfl
   have hC0 : ∀ W, Below w7.heap.size w7 W → W.cell? ⟨wr.heap.size, 12, none⟩ = some (.slice pa c.ps.length pc) := fun W hW => by
    have e := (row_below hW z7).trans r7
    rw [cell_of_row' (by rw [e]; simp), e]; simp
   have HT := h_ hturn
   have HPX := h_ hpx
   have HC := h_ hc
   have HCU := h_ hcur
   have HCO := h_ hC
   have HCI := h_ hci
   have HRO := h_ hrow
   have HRA := h_ hra
   have HZ7 := h_ z7
   clear hturn hpx hc hcur hC hci hrow hra
   go_wp2_with fail
   (try rw [hw7])
   (try clear hw7)
   have hG : GrowP fun W => Below w7.heap.size w7 W := grow_base w7
   refine wp_region_beginKG 8 _ hG rfl (Below.refl _ _) (fun hS => ?_)
   refine kf 0 hG hS ?_
   refine kg 1 hG hS ?_
   refine kf 2 hG hS ?_
   refine kf 3 hG hS ?_
   refine kg 4 hG hS ?_
   refine wpAnyK_op1 5 kr_ (by decide) (fun u hu => ?_)
   replace hu : Below w7.heap.size w7 u := below_step (Below.drew (Below.refl _ _)) hu
   refine wpOp_step rfl (fun K hK => ?_)
   go_simp
   have zu := hu.size
   have k7 := HZ7.out
   have Bru : Below wr.heap.size wr u := b7.trans (hu.mono (by omega))
   obtain ⟨prow, hprl, hpat, hpr⟩ := HPX.out.rows
   have hcl := clone_cport pa pc prow u (hpat.below Bru) (fun x hx => by
    obtain ⟨i, hi, rfl⟩ := List.getElem_of_mem hx
    have hi2 : i < c.ps.length := by omega
    obtain ⟨ta, tc, e1, _⟩ := hpr i c.ps[i] (List.getElem?_eq_getElem hi2)
    rw [List.getElem?_eq_getElem hi, Option.some.injEq] at e1
    rw [e1]
    exact portXV_ones _ _ _) (by omega)
   rw [hprl] at hcl
   (with_reducible refine hcl.mono ?_)
   rintro e y ⟨⟨v8, rfl, o8⟩, by0⟩
   obtain ⟨pa8, pc8, e8, he8⟩ := o8.elems
   rw [hprl] at e8
   subst e8
   have zy := by0.size
   have bY : Below w7.heap.size w7 y := hu.trans (by0.mono zu)
   have hS : XS [] (fun W => Below w7.heap.size w7 W) y := ⟨trivial, bY⟩
   refine hK _ _ ⟨hS, ?_⟩
   clear hK K hcl
   (try simp only [Act.put, List.setIfInBounds_toArray, List.set_cons_zero, List.set_cons_succ])
   refine kf 6 hG hS ?_
   refine kf 7 hG hS ?_
   refine wpAnyK_store (k := 8) opt_ rfl rfl kr_ (fun y2 hy => ?_)
   have zy2 := hy.size
   have BrY2 : Below wr.heap.size wr y2 := Bru.trans ((by0.trans (hy.mono zy)).mono (by omega))
   have hcur2 : y2.heap[g]? = some (.cells cur 106 (0, 0)) := (BrY2.block g hg).trans HCU.out
   have hrow2 : row y2 g = cur := (row_below BrY2 hg).trans HRO.out
   obtain ⟨y3, hy3⟩ : ∃ x, y2.setRow g (cur.setIfInBounds (j * 13 + 12) (.slice pa8 c.ps.length pc8)) = x := ⟨_, rfl⟩
   have hcell : y2.setCell ⟨g, j * 13 + 12, none⟩ (.slice pa8 c.ps.length pc8) = y3 := by rw [setCell_row _ (by rw [hrow2]; have := HCI.out; omega), hrow2]; exact hy3
   have hc2 : y2.cell? ⟨g, j * 13 + 12, none⟩ = some (cur[j * 13 + 12]'HCI.out) := by rw [cell_of_row' (by rw [hrow2]; exact HCI.out), hrow2]; exact Array.getElem?_eq_getElem _
   have hf2 : y2.frozen? ⟨g, j * 13 + 12, none⟩ = false := frozen_of_row' (by rw [hrow2]; exact HCI.out)
   refine ⟨y3, ?_, ⟨trivial, trivial⟩, fun hS => ?_⟩
   ·
    go_simp
   refine wpAnyR_done kr_ (fun w9 b9 => ?_) _
   have zy3 : y3.heap.size = y2.heap.size := by rw [← hy3]; simp
   have z9 := b9.size
   obtain ⟨G8, hG8⟩ : ∃ x, (pa8.map Addr.block).getD w.heap.size = x := ⟨_, rfl⟩
   have gG8 : G8 = w.heap.size ∨ (u.heap.size ≤ G8 ∧ G8 < y.heap.size) := by
    cases pa8 with
    | none => exact .inl hG8.symm
    | some a8 =>
     right
     obtain ⟨a1, a2, a3⟩ := a8
     have e3 : a3 = none := by
      obtain ⟨_, _, ⟨h1, _⟩ | ⟨g8, cap8, cur8, h1, _⟩⟩ := o8
      ·
       cases h1
      ·
       simp only [Value.slice.injEq, Option.some.injEq, Addr.mk.injEq] at h1
       exact h1.1.2.2
     have e2 : a2 = 0 := by
      obtain ⟨_, _, ⟨h1, _⟩ | ⟨g8, cap8, cur8, h1, _⟩⟩ := o8
      ·
       cases h1
      ·
       simp only [Value.slice.injEq, Option.some.injEq, Addr.mk.injEq] at h1
       exact h1.1.2.1
     subst e3 e2
     replace hG8 : a1 = G8 := hG8
     subst hG8
     have := o8.blk rfl
     exact ⟨this.1, this.2.1⟩
   have hS9 : ∀ T : List Nat, g ∈ T → BelowS wr.heap.size T wr w9 := fun T hT => by
    refine (BelowS.of BrY2).trans (BelowS.trans ?_ ((BelowS.of b9).mono (by omega)))
    rw [← hy3]
    exact BelowS.set _ _ hT
   have hg3 : ∀ X, X ≠ g → y3.heap[X]? = y2.heap[X]? := fun X hX => by rw [← hy3]; exact setRow_block_other _ _ _ hX
   have hP9 : PortsO [w.heap.size, w.heap.size + 1, g, G8] w9 u.heap.size (.slice pa8 c.ps.length pc8) c.ps := by
    refine ⟨prow, ((o8.below hy).keep fun kk hk => hg3 kk (by have := ((o8.below hy).blk hk).1; omega)).below b9, hprl, fun q x hx => ?_⟩
    obtain ⟨ta, tc, e1, e2⟩ := hpr q x hx
    refine ⟨ta, tc, e1, (e2.more (T := [w.heap.size, w.heap.size + 1, g, G8]) fun s hs => ?_).kept (hS9 _ (by simp))⟩
    simp only [List.mem_cons, List.not_mem_nil, or_false] at hs ⊢
    rcases hs with rfl | rfl | rfl | rfl
    ·
     exact .inl (.inl rfl)
    ·
     exact .inl (.inr (.inl rfl))
    ·
     exact .inl (.inr (.inr rfl))
    ·
     rcases gG8 with h1 | h1
     ·
      exact .inl (.inl h1)
     ·
      right; omega
   have hg9 : w9.heap[g]? = some (.cells (cur.setIfInBounds (j * 13 + 12) (.slice pa8 c.ps.length pc8)) 106 (0, 0)) := by
    rw [b9.block g (by omega), ← hy3]
    exact setRow_heap y2 g cur _ _ _ hcur2
   have rC9 : row w9 wr.heap.size = (u8v c.id ++ [Value.int .i64 c.ma, Value.int .i64 c.he, Value.int .i64 c.de, Value.int .i64 c.ageing, Value.slice pa c.ps.length pc]).toArray := by
    rw [row_below b9 (by omega), row_of_block (hg3 _ (by omega)), row_below hy (by omega), row_below bY k7]; exact r7
   have rP9 : row w9 w.heap.size = #[Value.slice (some ⟨g, 0, none⟩) cs.length gc, .slice wa3 ws.length wc3, .int .i64 r, .int .i64 k, .int .i64 p, .int .i64 d, .int .i64 room, .string ⟨seed.toArray⟩] := by
    rw [row_below b9 (by omega), row_of_block (hg3 _ (by omega)), row_below BrY2 (by omega)]; exact rP
   have cb9 : BelowBut w4.heap.size w.heap.size w4 w9 := by
    refine (cb.trans ((BelowBut.of BrY2).mono (by omega))).trans (BelowBut.trans ?_ ((BelowBut.of b9).mono (by omega)))
    rw [← hy3]
    exact BelowBut.of (Below.setRow (Below.refl _ _) hg4 _)
   have HP9 := h_ hP9
   have HG9 := h_ hg9
   have HS9 := h_ hS9
   have kwr : w.heap.size < wr.heap.size := by omega
   have kur : wr.heap.size < u.heap.size := by omega
   have ku9 : u.heap.size ≤ w9.heap.size := by omega
   have HGG := h_ gG8
   have HG8 := h_ hG8
   clear hP9 hg9 hS9 hg3 hcell hc2 hf2 hy3 hrow2 hcur2 hy b9 he8 o8 hpr hpat hprl prow hP0 hC0 hld r7 rP7 BrY2 bY by0 hu hS hG b7 zy2 zy3 zy z9 zu k7 HRO HRA gG8 hG8
   go_wp2_with fail
   obtain ⟨wO, hwO⟩ : ∃ x, x = wr := ⟨_, rfl⟩
   subst hwO
   go_loopw [34] (fun v wq => ∃ m : Nat, m ≤ c.ps.length ∧ v = .int .i64 m ∧ PortsO [w.heap.size, w.heap.size + 1, g, G8] wq u.heap.size (.slice pa8 c.ps.length pc8) c.ps ∧ Below u.heap.size w9 wq) (fun v _ => c.ps.length - (intOf v).toNat)
   case atStart => exact ⟨0, by omega, rfl, HP9.out, Below.refl _ _⟩
   case round =>
    obtain ⟨m, hm, rfl, hP, cbq⟩ := hrel
    have zq := cbq.size
    have rCq := (row_below cbq (show wO.heap.size < u.heap.size by omega)).trans rC9
    have rPq := (row_below cbq (show w.heap.size < u.heap.size by omega)).trans rP9
    have bOq : BelowS wO.heap.size [w.heap.size, w.heap.size + 1, g] wO wr := (HS9.out _ (by simp)).trans ((BelowS.of cbq).mono (by omega))
    have hgq := (cbq.block g (by omega)).trans HG9.out
    have hcg : ∀ W, Below wr.heap.size wr W → W.cell? ⟨g, j * 13 + 12, none⟩ = some (.slice pa8 c.ps.length pc8) := fun W hW => by
     have hW2 := (hW.block g (by omega)).trans hgq
     simp [World.cell?, hW2, HCI.out]
    have HP := h_ hP
    by_cases hlm : m < c.ps.length
    ·
     have hlmI : (m : Int) < (c.ps.length : Int) := by omega
     obtain ⟨pb, poff, ta, tc, hpa, hpb, hpr⟩ := HPX.out.get hlm
     obtain ⟨g8, e8, hB8, hz8, _⟩ := hP.set hlm
     subst e8 hpa
     have hg8 : G8 = g8 := HG8.out.symm
     subst hg8
     clear hP
     obtain ⟨x, hx⟩ : ∃ x, c.ps[m] = x := ⟨_, rfl⟩
     have hxl := htl x (hx ▸ List.getElem_mem hlm)
     obtain ⟨hra, htg⟩ := hpr wr bOq
     rw [hx] at hra htg
     obtain ⟨o, ho⟩ : ∃ o, poff + m * 39 = o := ⟨_, rfl⟩
     have hld := px_load (ho ▸ hra)
     unfold portXV at hld
     have HTG := h_ htg
     have HX := h_ hx
     clear hpr hra htg hx
     obtain ⟨v1, hv1⟩ : ∃ y, wr.alloc (.cells (Value.int .i64 x.p.native :: Value.slice ta x.p.tagged.length tc :: Value.int .i64 x.p.hor :: Value.int .i64 x.p.lim :: Value.bool x.link :: Value.int .i64 x.rate :: Value.bool x.greets :: u8v x.psk).toArray 137) = y := ⟨_, rfl⟩
     have c1 : Below wr.heap.size wr v1 := by rw [← hv1]; exact ba_
     have y1 : wr.heap.size < v1.heap.size := by rw [← hv1, alloc_sizeW]; omega
     have rX1 : row v1 wr.heap.size = (Value.int .i64 x.p.native :: Value.slice ta x.p.tagged.length tc :: Value.int .i64 x.p.hor :: Value.int .i64 x.p.lim :: Value.bool x.link :: Value.int .i64 x.rate :: Value.bool x.greets :: u8v x.psk).toArray := by rw [← hv1]; exact row_alloc_at _ _ _ rfl
     have hP0 : ∀ W, Below v1.heap.size v1 W → W.cell? ⟨w.heap.size, 0, none⟩ = some (.slice (some ⟨g, 0, none⟩) cs.length gc) := fun W hW => by
      have e := (row_below (c1.trans (hW.mono (by omega))) (show w.heap.size < wr.heap.size by omega)).trans rPq
      rw [cell_of_row' (by rw [e]; simp), e]; rfl
     have hG0 : ∀ W, Below v1.heap.size v1 W → W.cell? ⟨g, j * 13 + 12, none⟩ = some (.slice (some ⟨G8, 0, none⟩) c.ps.length pc8) := fun W hW => hcg W (c1.trans (hW.mono (by omega)))
     have hX0 : ∀ W, Below v1.heap.size v1 W → W.cell? ⟨wr.heap.size, 1, none⟩ = some (.slice ta x.p.tagged.length tc) := fun W hW => by
      have e := (row_below hW y1).trans rX1
      rw [cell_of_row' (by rw [e]; simp), e]; rfl
     have HY1 := h_ y1
     have HCG := h_ hcg
     clear hcg y1
     go_wp2_with fail
     (try rw [hv1])
     (try clear hv1)
     have hG : GrowP fun W => Below v1.heap.size v1 W := grow_base v1
     refine wp_region_beginKG 16 _ hG rfl (Below.refl _ _) (fun hS => ?_)
     refine kf 0 hG hS ?_
     refine kg 1 hG hS ?_
     refine kf 2 hG hS ?_
     refine kf 3 hG hS ?_
     refine kf 4 hG hS ?_
     refine kg 5 hG hS ?_
     refine kf 6 hG hS ?_
     refine kf 7 hG hS ?_
     refine kf 8 hG hS ?_
     refine kf 9 hG hS ?_
     refine kg 10 hG hS ?_
     refine wpAnyK_op1 11 kr_ (by decide) (fun q hq => ?_)
     replace hq : Below v1.heap.size v1 q := below_step (Below.drew (Below.refl _ _)) hq
     refine wpOp_step rfl (fun K hK => ?_)
     go_simp
     have yq := hq.size
     have y1 := HY1.out
     have cq : Below wr.heap.size wr q := c1.trans (hq.mono (by omega))
     (with_reducible refine (sClone_any ta tc x.p.tagged q (ints_of (HTG.out.below cq)) hxl).mono ?_)
     rintro e s ⟨⟨v11, rfl, o11⟩, bs⟩
     obtain ⟨ta11, tc11, e11, he11⟩ := o11.off [w.heap.size, w.heap.size + 1, g, G8] (fun s hs => by
      simp only [List.mem_cons, List.not_mem_nil, or_false] at hs
      rcases hs with rfl | rfl | rfl | rfl <;> (left; omega))
     rw [List.length_map] at e11
     subst e11
     have ys := bs.size
     have hS : XS [] (fun W => Below v1.heap.size v1 W) s := ⟨trivial, hq.trans (bs.mono yq)⟩
     refine hK _ _ ⟨hS, ?_⟩
     clear hK K
     (try simp only [Act.put, List.setIfInBounds_toArray, List.set_cons_zero, List.set_cons_succ])
     refine kf 12 hG hS ?_
     refine kf 13 hG hS ?_
     refine kf 14 hG hS ?_
     refine kf 15 hG hS ?_
     refine wpAnyK_store (k := 16) opt_ rfl rfl kr_ (fun s2 hs2 => ?_)
     have ys2 := hs2.size
     have cs2 : Below wr.heap.size wr s2 := cq.trans ((bs.trans (hs2.mono ys)).mono (by omega))
     obtain ⟨g9, e9, _, _, cur9, hr9, hc9, hset9⟩ := (HP.out.below cs2).set hlm
     simp only [Option.some.injEq, Addr.mk.injEq, and_true] at e9
     subst e9
     rw [HX.out] at hset9
     obtain ⟨s3, hs3⟩ : ∃ y, s2.setRow G8 (cur9.setIfInBounds (m * 39 + 1) (.slice ta11 x.p.tagged.length tc11)) = y := ⟨_, rfl⟩
     have hcell : s2.setCell ⟨G8, m * 39 + 1, none⟩ (.slice ta11 x.p.tagged.length tc11) = s3 := by rw [setCell_row _ (by rw [hr9]; omega), hr9]; exact hs3
     have hc2 : s2.cell? ⟨G8, m * 39 + 1, none⟩ = some (cur9[m * 39 + 1]'hc9) := by rw [cell_of_row' (by rw [hr9]; exact hc9), hr9]; exact Array.getElem?_eq_getElem _
     have hf2 : s2.frozen? ⟨G8, m * 39 + 1, none⟩ = false := frozen_of_row' (by rw [hr9]; exact hc9)
     refine ⟨s3, by go_simp, ⟨trivial, trivial⟩, fun hS => ?_⟩
     refine wpAnyR_done kr_ (fun s4 b4' => ?_) _
     have hPf := (hset9 (by simp) ta11 tc11 (he11.below hs2)).below (by rw [hs3]; exact b4')
     have hbf : Below u.heap.size w9 s4 := by
      refine (cbq.trans (cs2.mono (by omega))).trans (Below.trans ?_ (b4'.mono (by rw [← hs3, setRow_size]; omega)))
      rw [← hs3]
      exact Below.setRow (Below.refl _ _) (by omega) _
     have HPF := h_ hPf
     clear hPf hset9 hcell hc2 hf2 hs3 hs2 b4' hS hX0 hG0 hP0 hld o11 he11
     go_wp2_with fail
     go_roundw
     case rel => exact ⟨m + 1, by omega, by simp, HPF.out, hbf⟩
     case measure => simp [intOf]; omega
    ·
     obtain rfl : m = c.ps.length := by omega
     have hlmI : ¬ (c.ps.length : Int) < (c.ps.length : Int) := by omega
     have hCE := HT.out wr pa8 pc8 bOq hgq (hP.px hpl [w.heap.size, w.heap.size + 1, g] (fun s hs => by simp only [List.mem_cons, List.not_mem_nil, or_false] at hs ⊢; rcases hs with rfl | rfl | rfl <;> simp) (fun s hs => by
      simp only [List.mem_cons, List.not_mem_nil, or_false] at hs
      rcases hs with rfl | rfl | rfl <;> (left; omega)))
     have cbE : BelowBut w4.heap.size w.heap.size w4 wr := cb9.trans ((BelowBut.of cbq).mono (by omega))
     have HCE := h_ hCE
     clear hCE hP hcg
     go_wp2_with fail
     go_roundw
     case rel => exact ⟨j + 1, by omega, by simp, HCE.out, rPq, cbE, by omega⟩
     case measure => simp [intOf]; omega
  ·
   obtain rfl : j = cs.length := by omega
   have hltI : ¬ (cs.length : Int) < (cs.length : Int) := by omega
   have HC := h_ hC
   obtain ⟨wE, hwE⟩ : ∃ x, wr.setRow (w.heap.size + 1) #[Value.slice (some ⟨g, 0, none⟩) cs.length gc, .slice wa3 ws.length wc3, .int .i64 r, .int .i64 k, .int .i64 p, .int .i64 d, .int .i64 room, .string ⟨seed.toArray⟩] = x := ⟨_, rfl⟩
   have rRE : row wE (w.heap.size + 1) = #[Value.slice (some ⟨g, 0, none⟩) cs.length gc, .slice wa3 ws.length wc3, .int .i64 r, .int .i64 k, .int .i64 p, .int .i64 d, .int .i64 room, .string ⟨seed.toArray⟩] := by rw [← hwE]; exact row_setRow_same (by rw [rR]; simp) (by rw [rR]; simp)
   have bE : Below w.heap.size w wE := by rw [← hwE]; exact Below.setRow cbw (by omega) _
   have HCE := h_ (show ConfsO [w.heap.size, w.heap.size + 1, g] wE w4.heap.size (.slice (some ⟨g, 0, none⟩) cs.length gc) cs by
    rw [← hwE]
    exact hC.kept (BelowS.set _ _ (by simp)) fun kk hk => setRow_block_other _ _ _ (by simp only [Value.ownBlock, Option.some.injEq] at hk; omega))
   have HWE := h_ (show OwnL wE w2.heap.size 109 4 (.slice wa3 ws.length wc3) (ws.map wireC) by
    rw [← hwE]
    have o := HO4.out.but cb (by omega)
    exact o.keep fun kk hk => setRow_block_other _ _ _ (by have := (o.blk hk).1; omega))
   clear hC
   go_wp2_with fail
   (try rw [hwE])
   clear hwE
   (try simp only [Exit.inBlock, Exit.then])
   refine bodyPost_ret (results_1 rfl (resOk_row rfl ?_)) rfl ?_
   ·
    rw [rRE]; simp
   obtain ⟨ca8, cc8, e8, h8⟩ := HCE.out.at
   obtain ⟨wa8, wc8, e9, h9⟩ := HWE.out.elems
   rw [List.length_map] at e9
   simp only [Value.slice.injEq] at e8 e9
   obtain ⟨rfl, _, rfl⟩ := e8
   obtain ⟨rfl, _, rfl⟩ := e9
   exact ⟨⟨_, wa3, ⟨gc, wc3, by rw [rRE]⟩, h8, h9⟩, bE⟩
end
section
open Go.RowKit Go.Shelf
theorem drawn_any (s : List UInt8) (w : World) : Calls Tryz.prog 37 #[.string ⟨s.toArray⟩] w fun e w' => (∃ fn a b, e = .returned (.func fn a b)) ∧ Below w.heap.size w w' := by
 go_enter Tryz.func37, Tryz.ntmps37
 go_wp2_with fail
 go_ret
 exact ⟨⟨_, _, _, rfl⟩, blw_⟩
theorem range_row {W : World} {b : Nat} {pre l post : List Value} (h : row W b = (pre ++ (l ++ post)).toArray) : W.rangeAt b pre.length l := fun j v hj => by
 have hjl := (List.getElem?_eq_some_iff.1 hj).1
 have hs : pre.length + j < (row W b).size := by rw [h]; simp; omega
 rw [cell_of_row' hs, h, List.getElem?_toArray, List.getElem?_append_right (by omega), Nat.add_sub_cancel_left, List.getElem?_append_left hjl]
 exact hj
theorem SeenT.kept {w w' : World} {M : Nat} {S : List Nat} {seen : List (Int × Int)} (h : SeenT w M seen) (hb : BelowS w.heap.size S w w') (hM : M ∉ S) : SeenT w' M seen := by
 obtain ⟨h1, m, h2, h3⟩ := h
 have e := hb.block M h1.lt hM
 exact ⟨(mapOk_of_block e).2 h1, m, by rw [mapL_of_block e, h2], h3⟩
def nodO (x : Option Nat) : List Value := [.pointer (x.map fun N => ⟨N, 0, none⟩)]
theorem nodInfo : (Tryz.prog.info? 72).map (fun i => (i.zero.map (·.cells.size), i.size, i.bytes)) = some (some 1, 1, 8) := by kernel_rfl
structure FabX where
 ca : Option Addr
 cc : Nat
 wa : Option Addr
 wc : Nat
 na : Option Addr
 nc : Nat
 M : Nat
 dv : Value
def FabX.row (x : FabX) (r k p d room : Int) (seed : List UInt8) (n nw : Nat) (told given : Value) : Array Value := #[.slice x.ca n x.cc, .slice x.wa nw x.wc, .int .i64 r, .int .i64 k, .int .i64 p, .int .i64 d, .int .i64 room, .string ⟨seed.toArray⟩, .slice x.na n x.nc, .map (some x.M), .slice none 0 0, told, given, x.dv]
structure FabU (w1 : World) (B : Nat) (w : World) (F : Nat) (x : FabX) (r k p d room : Int) (seed : List UInt8) (cs : List ConfX) (nw : Nat) (ns : List (Option Nat)) (told given : Value) : Prop where
 confs : ConfsAt w1 x.ca cs
 low : Below w1.heap.size w1 w
 rF : row w F = x.row r k p d room seed cs.length nw told given
 gF : w1.heap.size ≤ F
 ltF : F < B
 len : ns.length = cs.length
 own : OwnL w B 72 1 (.slice x.na ns.length x.nc) (ns.map nodO)
def NodeK (B : Nat) (w : World) (N : Nat) (c : ConfX) (r k p d room : Int) (v : Value) : Prop :=
 ∃ w0 w2, B ≤ w0.heap.size ∧ NodeM w0 w2 N c r k p d room ∧ w2.heap.size ≤ w.heap.size ∧ ∀ X, w0.heap.size ≤ X → X < w2.heap.size → w.heap[X]? = w2.heap[X]? ∧ v.ownBlock ≠ some X
structure FabT (w1 : World) (B : Nat) (w : World) (F : Nat) (x : FabX) (r k p d room : Int) (seed : List UInt8) (cs : List ConfX) (nw : Nat) (seen : List (Int × Int)) (ns : List Nat) : Prop where
 u : FabU w1 B w F x r k p d room seed cs nw (ns.map some) (.slice none 0 0) (.slice none 0 0)
 seen : SeenT w x.M seen
 gM : w1.heap.size ≤ x.M
 ltM : x.M < B
 nMF : x.M ≠ F
 nodes : ∀ (i N : Nat) (c : ConfX), ns[i]? = some N → cs[i]? = some c → NodeK B w N c r k p d room (.slice x.na ns.length x.nc)
section
variable (ca : Option Addr) (cc : Nat) (cs : List ConfX) (wa : Option Addr) (wc : Nat) (ws : List WireX) (r k p d room : Int) (seed : List UInt8) (w : World) (h : ConfsAt w ca cs) (hps : ∀ c ∈ cs, c.ps.length ≤ 1000 ∧ ∀ x ∈ c.ps, x.p.tagged.length ≤ 1000) (hw : WiresAt w wa ws) (hwn : ws.length ≤ 1000)
include h hps hw hwn
theorem new_no (hr : rightF r k p d room cs ws = false) :
  Calls Tryz.prog 19 #[.agg (planV ca cs.length cc wa ws.length wc r k p d room seed).toArray] w fun e w' => e = .returned (.tuple #[.pointer none, .int .i64 1]) ∧ Below w.heap.size w w' := by
 unfold planV
 go_enter Tryz.func19, Tryz.ntmps19
 obtain ⟨w1, hw1⟩ : ∃ x, w.alloc (.cells #[Value.slice ca cs.length cc, .slice wa ws.length wc, .int .i64 r, .int .i64 k, .int .i64 p, .int .i64 d, .int .i64 room, .string ⟨seed.toArray⟩] 48) = x := ⟨_, rfl⟩
 have b1 : Below w.heap.size w w1 := by rw [← hw1]; exact ba_
 have rC1 : row w1 w.heap.size = #[Value.slice ca cs.length cc, .slice wa ws.length wc, .int .i64 r, .int .i64 k, .int .i64 p, .int .i64 d, .int .i64 room, .string ⟨seed.toArray⟩] := by rw [← hw1]; exact row_alloc_at _ _ _ rfl
 have hR := rightF_any ca cc cs wa wc ws r k p d room seed w1 (h.below b1) (fun c hc => (hps c hc).1) (hw.below b1) hwn
 unfold planV at hR
 rw [hr] at hR
 have HR := h_ hR
 clear hR
 go_wp2_with fail
 (try rw [hw1])
 (try clear hw1)
 (with_reducible refine HR.out.mono ?_)
 rintro e w2 ⟨rfl, b2⟩
 have B2 := b1.trans (b2.mono b1.size)
 go_wp2_with fail
 go_ret2
 exact ⟨rfl, B2⟩
theorem new_yes (hr : rightF r k p d room cs ws = true) :
  Calls Tryz.prog 19 #[.agg (planV ca cs.length cc wa ws.length wc r k p d room seed).toArray] w fun e w' => (∃ F, e = .returned (.tuple #[.pointer (some ⟨F, 0, none⟩), .int .i64 0]) ∧ ∃ w1, w.heap.size ≤ w1.heap.size ∧ ∃ B x seen ns, FabT w1 B w' F x r k p d room seed cs ws.length seen ns) ∧ Below w.heap.size w w' := by
 have hrr := hr
 unfold rightF at hrr
 simp only [Bool.and_eq_true, decide_eq_true_eq] at hrr
 obtain ⟨⟨⟨hn1, hn16⟩, hall⟩, hends⟩ := hrr
 have HALL := h_ hall
 have HENDS := h_ hends
 clear hall hends
 have hnI : (cs.length : Int) ≤ 16 := by omega
 unfold planV
 go_enter Tryz.func19, Tryz.ntmps19
 obtain ⟨w1, hw1⟩ : ∃ x, w.alloc (.cells #[Value.slice ca cs.length cc, .slice wa ws.length wc, .int .i64 r, .int .i64 k, .int .i64 p, .int .i64 d, .int .i64 room, .string ⟨seed.toArray⟩] 48) = x := ⟨_, rfl⟩
 have b1 : Below w.heap.size w w1 := by rw [← hw1]; exact ba_
 have rC1 : row w1 w.heap.size = #[Value.slice ca cs.length cc, .slice wa ws.length wc, .int .i64 r, .int .i64 k, .int .i64 p, .int .i64 d, .int .i64 room, .string ⟨seed.toArray⟩] := by rw [← hw1]; exact row_alloc_at _ _ _ rfl
 have lC1 : w.heap.size < w1.heap.size := by rw [← hw1, alloc_sizeW]; omega
 have hR := rightF_any ca cc cs wa wc ws r k p d room seed w1 (h.below b1) (fun c hc => (hps c hc).1) (hw.below b1) hwn
 unfold planV at hR
 rw [hr] at hR
 have HR := h_ hR
 have HRT := h_ hr
 clear hR hr
 go_wp2_with fail
 (try rw [hw1])
 (try clear hw1)
 (with_reducible refine HR.out.mono ?_)
 rintro e w2 ⟨rfl, b2⟩
 have B2 := b1.trans (b2.mono b1.size)
 have rC2 := (row_below b2 lC1).trans rC1
 have lC2 : w.heap.size < w2.heap.size := Nat.lt_of_lt_of_le lC1 b2.size
 clear rC1 b2 b1 lC1 HR
 go_wp2_with fail
 obtain ⟨P0, hP0⟩ : ∃ P0, w.heap.size = P0 := ⟨_, rfl⟩
 have HP0 := h_ hP0
 rw [hP0] at rC2 lC2
 (try rw [hP0])
 clear hP0
 have hG : GrowP fun W => Below w2.heap.size w2 W := grow_base w2
 refine rgX_ [(P0, #[Value.slice ca cs.length cc, .slice wa ws.length wc, .int .i64 r, .int .i64 k, .int .i64 p, .int .i64 d, .int .i64 room, .string ⟨seed.toArray⟩])] (fun W => Below w2.heap.size w2 W) hG (Below.refl _ _) (fun hS => ?_)
 refine sp 0 hG hS ?_
 refine sp 2 hG hS ?_
 refine sp 3 hG hS ?_
 refine wpAnyR_op1 1 kr_ (fun u hu => ?_)
 refine wpOp_step rfl (fun K hK => ?_)
 go_simp
 have hu2 : Below w2.heap.size w2 u := below_step (Below.drew (Below.refl _ _)) hu
 have zu := hu2.size
 have Bu : Below w.heap.size w u := B2.trans (hu2.mono B2.size)
 have hcp := copied_any ca cc cs wa wc ws r k p d room seed u (h.below Bu) hps (hw.below Bu) hn1 (by omega) hwn
 unfold planV at hcp
 (with_reducible refine hcp.mono ?_)
 rintro e y ⟨⟨ca1, wa1, ⟨cc1, wc1, rfl⟩, hC1, hW1⟩, by0⟩
 have bY : Below w2.heap.size w2 y := hu2.trans (by0.mono zu)
 have hS : XS [(P0, #[Value.slice ca cs.length cc, .slice wa ws.length wc, .int .i64 r, .int .i64 k, .int .i64 p, .int .i64 d, .int .i64 room, .string ⟨seed.toArray⟩])] (fun W => Below w2.heap.size w2 W) y := ⟨⟨(row_below bY lC2).trans rC2, Nat.lt_of_lt_of_le lC2 bY.size, trivial⟩, bY⟩
 refine hK _ _ ⟨hS, ?_⟩
 clear hK K hcp
 (try simp only [Act.put, List.setIfInBounds_toArray, List.set_cons_zero, List.set_cons_succ])
 refine wpAnyR_op1 4 kr_ (fun y1 hy1 => ?_)
 refine wpOp_step rfl (fun K hK => ?_)
 go_simp
 (with_reducible refine (drawn_any seed y1).mono ?_)
 rintro e y2 ⟨⟨fn, fa, fb, rfl⟩, by2⟩
 have by12 : Below y.heap.size y y2 := hy1.trans (by2.mono hy1.size)
 have bY2 : Below w2.heap.size w2 y2 := bY.trans (by12.mono bY.size)
 have hS : XS [(P0, #[Value.slice ca cs.length cc, .slice wa ws.length wc, .int .i64 r, .int .i64 k, .int .i64 p, .int .i64 d, .int .i64 room, .string ⟨seed.toArray⟩])] (fun W => Below w2.heap.size w2 W) y2 := ⟨⟨(row_below bY2 lC2).trans rC2, Nat.lt_of_lt_of_le lC2 bY2.size, trivial⟩, bY2⟩
 refine hK _ _ ⟨hS, ?_⟩
 clear hK K
 (try simp only [Act.put, List.setIfInBounds_toArray, List.set_cons_zero, List.set_cons_succ])
 refine sp 5 hG hS ?_
 refine wpAnyR_op1 6 kr_ (fun y3 hy3 => ?_)
 refine wpOp_step rfl (fun K hK => ?_)
 go_simp
 have zy3 := hy3.size
 obtain ⟨y4, hy4⟩ : ∃ x, y3.alloc (.cells (Value.slice ca1 cs.length cc1 :: Value.slice wa1 ws.length wc1 :: Value.int .i64 r :: Value.int .i64 k :: Value.int .i64 p :: Value.int .i64 d :: Value.int .i64 room :: Value.string ⟨seed.toArray⟩ :: Value.slice none 0 0 :: Value.map none :: (zeros 3 (Value.slice none 0 0) ++ [Value.func fn fa fb])).toArray 71) = x := ⟨_, rfl⟩
 have b4 : Below y3.heap.size y3 y4 := by rw [← hy4]; exact ba_
 have rF4 : row y4 y3.heap.size = #[Value.slice ca1 cs.length cc1, .slice wa1 ws.length wc1, .int .i64 r, .int .i64 k, .int .i64 p, .int .i64 d, .int .i64 room, .string ⟨seed.toArray⟩, .slice none 0 0, .map none, .slice none 0 0, .slice none 0 0, .slice none 0 0, .func fn fa fb] := by rw [← hy4]; exact (row_alloc_at _ _ _ rfl).trans rfl
 have z4 : y3.heap.size < y4.heap.size := by rw [← hy4, alloc_sizeW]; omega
 rw [hy4]
 have byy4 : Below y.heap.size y y4 := by12.trans ((hy3.trans (b4.mono zy3)).mono by12.size)
 have bY4 : Below w2.heap.size w2 y4 := bY.trans (byy4.mono bY.size)
 have hS : XS [(P0, #[Value.slice ca cs.length cc, .slice wa ws.length wc, .int .i64 r, .int .i64 k, .int .i64 p, .int .i64 d, .int .i64 room, .string ⟨seed.toArray⟩])] (fun W => Below w2.heap.size w2 W) y4 := ⟨⟨(row_below bY4 lC2).trans rC2, Nat.lt_of_lt_of_le lC2 bY4.size, trivial⟩, bY4⟩
 refine hK _ _ ⟨hS, ?_⟩
 clear hK K hy4
 (try simp only [Act.put, List.setIfInBounds_toArray, List.set_cons_zero, List.set_cons_succ])
 have zy12 := by12.size
 have zb4 := b4.size
 obtain ⟨F, hF⟩ : ∃ F, y3.heap.size = F := ⟨_, rfl⟩
 rw [hF] at rF4 z4
 (try rw [hF])
 refine sp 7 hG hS ?_
 refine wpAnyR_done kr_ (fun y5 by5 => ?_) _
 have gF : y.heap.size ≤ F := by omega
 have rF5 := (row_below by5 z4).trans rF4
 have lF5 : F < y5.heap.size := Nat.lt_of_lt_of_le z4 by5.size
 have byy5 : Below y.heap.size y y5 := byy4.trans (by5.mono byy4.size)
 have BY : Below w.heap.size w y := Bu.trans (by0.mono Bu.size)
 have BY5 : Below w.heap.size w y5 := BY.trans (byy5.mono BY.size)
 have HP0' := HP0.out
 clear hS by5 byy4 bY4 b4 rF4 z4 hF hy3 zy3 by12 bY2 by2 hy1 bY by0 hu2 hu zu Bu rC2 lC2 hG B2 zb4 zy12
 have hep := endsP_any ca1 cc1 cs wa1 wc1 ws r k p d room seed y5 (hC1.below byy5) (hW1.below byy5) hwn
 unfold planV at hep
 have hldp : (loadS 48 (.pointer (some ⟨F, 0, none⟩))).run Tryz.prog y5 = .ok (.agg #[Value.slice ca1 cs.length cc1, .slice wa1 ws.length wc1, .int .i64 r, .int .i64 k, .int .i64 p, .int .i64 d, .int .i64 room, .string ⟨seed.toArray⟩]) y5 := run_loadS_at (l := [Value.slice ca1 cs.length cc1, .slice wa1 ws.length wc1, .int .i64 r, .int .i64 k, .int .i64 p, .int .i64 d, .int .i64 room, .string ⟨seed.toArray⟩]) (range_row (pre := []) (post := [.slice none 0 0, .map none, .slice none 0 0, .slice none 0 0, .slice none 0 0, .func fn fa fb]) rF5) (by simp)
 have HEP := h_ hep
 clear hep
 simp only [Exit.then]
 go_wp2_with fail
 (with_reducible refine HEP.out.mono ?_)
 rintro e y6 ⟨⟨hno, _⟩ | ⟨_, M, rfl, gM, seen, hsn, hsz⟩, b6⟩
 ·
  rw [HENDS.out] at hno; cases hno
 have z6 := b6.size
 have rF6 := (row_below b6 lF5).trans rF5
 have lM6 := hsn.1.lt
 obtain ⟨y7, hy7⟩ : ∃ x, y6.setRow F #[Value.slice ca1 cs.length cc1, .slice wa1 ws.length wc1, .int .i64 r, .int .i64 k, .int .i64 p, .int .i64 d, .int .i64 room, .string ⟨seed.toArray⟩, .slice none 0 0, .map (some M), .slice none 0 0, .slice none 0 0, .slice none 0 0, .func fn fa fb] = x := ⟨_, rfl⟩
 have rF7 : row y7 F = #[Value.slice ca1 cs.length cc1, .slice wa1 ws.length wc1, .int .i64 r, .int .i64 k, .int .i64 p, .int .i64 d, .int .i64 room, .string ⟨seed.toArray⟩, .slice none 0 0, .map (some M), .slice none 0 0, .slice none 0 0, .slice none 0 0, .func fn fa fb] := by rw [← hy7]; exact row_setRow_same (by rw [rF6]; simp) (by rw [rF6]; simp)
 have z7 : y7.heap.size = y6.heap.size := by rw [← hy7, setRow_size]
 have hsn7 : SeenT y7 M seen := hsn.kept (S := [F]) (by rw [← hy7]; exact BelowS.set _ _ (by simp)) (by simp; omega)
 have byy7 : Below y.heap.size y y7 := by rw [← hy7]; exact Below.setRow (byy5.trans (b6.mono byy5.size)) gF _
 have lF7 : F < y7.heap.size := by omega
 have lM7 : M < y7.heap.size := by omega
 have gyM : y.heap.size ≤ M := Nat.le_trans byy5.size gM
 have nMF : M ≠ F := by omega
 have k57 : y5.heap.size ≤ y7.heap.size := by omega
 have HSN := h_ hsn7
 clear hsn hsn7 HEP hldp rF5 b6 z6 lM6 gM byy5
 go_wp2_with fail
 (try rw [hy7])
 clear hy7 rF6 z7
 have hall : ∀ c ∈ cs, madeOk r k p d room c = true := fun c hc => List.all_eq_true.1 HALL.out c hc
 have HAL := h_ hall
 clear hall
 go_loopw [35] (fun u wr => ∃ (j : Nat) (na : Option Addr) (nc : Nat) (ns : List Nat), j ≤ cs.length ∧ u = .int .i64 j ∧ ns.length = j ∧ row wr F = #[Value.slice ca1 cs.length cc1, .slice wa1 ws.length wc1, .int .i64 r, .int .i64 k, .int .i64 p, .int .i64 d, .int .i64 room, .string ⟨seed.toArray⟩, .slice na j nc, .map (some M), .slice none 0 0, .slice none 0 0, .slice none 0 0, .func fn fa fb] ∧ OwnL wr y7.heap.size 72 1 (.slice na j nc) ((ns.map some).map nodO) ∧
  (∀ (i N : Nat) (c : ConfX), ns[i]? = some N → cs[i]? = some c → NodeK y7.heap.size wr N c r k p d room (.slice na j nc)) ∧ BelowBut y7.heap.size F y7 wr) (fun u _ => cs.length - (intOf u).toNat)
 case atStart => exact ⟨0, none, 0, [], by omega, rfl, rfl, rF7, OwnL.nil _ _ _ _, fun i N c h1 => by simp at h1, BelowBut.of (Below.refl _ _)⟩
 case round =>
  obtain ⟨j, na, nc, ns, hj, rfl, hnl, rF, hown, hnod, cb⟩ := hrel
  have zb := cb.size
  have cbw : Below w.heap.size w wr := BY.trans ((byy7.mono BY.size).trans ((cb.mono (show w.heap.size ≤ y7.heap.size by have := byy7.size; have := BY.size; omega)).below (by have := BY.size; omega)))
  have cby : Below y.heap.size y wr := byy7.trans ((cb.mono byy7.size).below gF)
  by_cases hlt : j < cs.length
  ·
   have hltI : (j : Int) < (cs.length : Int) := by omega
   have hmd := made_any ca1 cc1 cs wa1 ws.length wc1 r k p d room seed wr (hC1.below cby) j hlt (hps _ (List.getElem_mem hlt)).1
   unfold planV at hmd
   have hldp : (loadS 48 (.pointer (some ⟨F, 0, none⟩))).run Tryz.prog wr = .ok (.agg #[Value.slice ca1 cs.length cc1, .slice wa1 ws.length wc1, .int .i64 r, .int .i64 k, .int .i64 p, .int .i64 d, .int .i64 room, .string ⟨seed.toArray⟩]) wr := run_loadS_at (l := [Value.slice ca1 cs.length cc1, .slice wa1 ws.length wc1, .int .i64 r, .int .i64 k, .int .i64 p, .int .i64 d, .int .i64 room, .string ⟨seed.toArray⟩]) (range_row (pre := []) (post := [.slice na j nc, .map (some M), .slice none 0 0, .slice none 0 0, .slice none 0 0, .func fn fa fb]) rF) (by simp)
   have HMD := h_ hmd
   have HND := h_ hnod
   have HO := h_ hown
   have HNL := h_ hnl
   clear hmd hnod hown hnl
   go_wp2_with fail
   (with_reducible refine HMD.out.mono ?_)
   rintro e y8 ⟨⟨hno, _⟩ | ⟨_, N, rfl, n0, n2, gn0, hNM, bn2⟩, b8⟩
   ·
    rw [HAL.out _ (List.getElem_mem hlt)] at hno; cases hno
   have z8 := b8.size
   have zn2 := bn2.size
   have rF8 := (row_below b8 (show F < wr.heap.size by omega)).trans rF
   have own8 := HO.out.below b8
   have HO8 := h_ own8
   have HNM := h_ hNM
   have hL8 : ((ns.map some).map nodO).length ≤ 10000 := by rw [List.length_map, List.length_map, HNL.out]; omega
   have HL8 := h_ hL8
   have k78 : y7.heap.size ≤ y8.heap.size := by omega
   clear own8 hNM hL8 hldp
   go_wp2_with (at_builtin; (refine wpList_appendW rfl rfl Tryz.underlying66 nodInfo (by decide) (by decide) y7.heap.size _ _ rfl HO8.out [.pointer (some ⟨N, 0, none⟩)] rfl rfl rfl HL8.out k78 ?_))
   intro g gc y9 hg own9 b9 hk9
   rw [HNL.out] at own9
   (try rw [HNL.out])
   have hrw9 : ns.map (nodO ∘ some) ++ [[Value.pointer (some ⟨N, 0, none⟩)]] = ((ns ++ [N]).map some).map nodO := by simp [nodO]
   rw [hrw9] at own9
   have hgo := HO8.out
   have rF9 := (row_of_block (hk9 F (by omega) fun e2 => by have := (hgo.blk e2).1; omega)).trans rF8
   have z9 : y8.heap.size ≤ y9.heap.size := b9.size
   obtain ⟨y10, hy10⟩ : ∃ x, y9.setRow F #[Value.slice ca1 cs.length cc1, .slice wa1 ws.length wc1, .int .i64 r, .int .i64 k, .int .i64 p, .int .i64 d, .int .i64 room, .string ⟨seed.toArray⟩, .slice (some ⟨g, 0, none⟩) (j + 1) gc, .map (some M), .slice none 0 0, .slice none 0 0, .slice none 0 0, .func fn fa fb] = x := ⟨_, rfl⟩
   have rF10 : row y10 F = #[Value.slice ca1 cs.length cc1, .slice wa1 ws.length wc1, .int .i64 r, .int .i64 k, .int .i64 p, .int .i64 d, .int .i64 room, .string ⟨seed.toArray⟩, .slice (some ⟨g, 0, none⟩) (j + 1) gc, .map (some M), .slice none 0 0, .slice none 0 0, .slice none 0 0, .func fn fa fb] := by rw [← hy10]; exact row_setRow_same (by rw [rF9]; simp) (by rw [rF9]; simp)
   have hstep : ∀ X, X < y8.heap.size → y7.heap.size ≤ X → (Value.slice na j nc).ownBlock ≠ some X → y10.heap[X]? = y8.heap[X]? ∧ (Value.slice (some ⟨g, 0, none⟩) (j + 1) gc).ownBlock ≠ some X := fun X hX hX2 hX3 => by
    refine ⟨?_, fun e2 => ?_⟩
    ·
     rw [← hy10, setRow_block_other _ _ _ (by omega)]
     exact hk9 X hX hX3
    ·
     simp only [Value.ownBlock, Option.some.injEq] at e2
     rcases hg with h1 | h1
     ·
      exact hX3 (h1.trans (by rw [e2]))
     ·
      omega
   have hnod10 : ∀ (i N' : Nat) (c : ConfX), (ns ++ [N])[i]? = some N' → cs[i]? = some c → NodeK y7.heap.size y10 N' c r k p d room (.slice (some ⟨g, 0, none⟩) (j + 1) gc) := by
    intro i N' c hi hc
    have z10 : y10.heap.size = y9.heap.size := by rw [← hy10, setRow_size]
    by_cases hij : i < j
    ·
     rw [List.getElem?_append_left (by rw [HNL.out]; exact hij)] at hi
     obtain ⟨w0, w2, e1, e2, e3, e4⟩ := HND.out i N' c hi hc
     refine ⟨w0, w2, e1, e2, by omega, fun X hX hX2 => ?_⟩
     obtain ⟨f1, f2⟩ := e4 X hX hX2
     obtain ⟨f3, f4⟩ := hstep X (by omega) (by omega) f2
     exact ⟨f3.trans ((b8.block X (by omega)).trans f1), f4⟩
    ·
     have hij2 : i = j := by
      have := (List.getElem?_eq_some_iff.1 hi).1
      rw [List.length_append, HNL.out, List.length_singleton] at this
      omega
     subst hij2
     rw [List.getElem?_append_right (by rw [HNL.out]; exact Nat.le_refl _), HNL.out, Nat.sub_self, List.getElem?_cons_zero, Option.some.injEq] at hi
     subst hi
     rw [List.getElem?_eq_getElem hlt, Option.some.injEq] at hc
     subst hc
     refine ⟨n0, n2, by omega, HNM.out, by omega, fun X hX hX2 => ?_⟩
     obtain ⟨f3, f4⟩ := hstep X (by omega) (by omega) fun e2 => by have := (HO.out.blk e2).2.1; omega
     exact ⟨f3.trans (bn2.block X hX2), f4⟩
   have own10 : OwnL y10 y7.heap.size 72 1 (.slice (some ⟨g, 0, none⟩) (j + 1) gc) (((ns ++ [N]).map some).map nodO) := by rw [← hy10]; exact own9.keep fun kk hk => setRow_block_other _ _ _ (by have := (own9.blk hk).1; omega)
   have cb10 : BelowBut y7.heap.size F y7 y10 := by rw [← hy10]; exact ((cb.trans ((BelowBut.of b8).mono zb)).trans (BelowBut.of b9)).trans (BelowBut.set _ _)
   have HO10 := h_ own10
   have HN10 := h_ hnod10
   clear own10 hnod10 hstep own9 hk9 hgo HO8 HND HO rF8 rF hrw9 b9 b8 bn2 hg
   go_wp2_with fail
   (try rw [hy10])
   clear hy10 rF9
   go_roundw
   case rel => exact ⟨j + 1, some ⟨g, 0, none⟩, gc, ns ++ [N], by omega, by simp, by rw [List.length_append, HNL.out]; rfl, rF10, HO10.out, HN10.out, cb10⟩
   case measure => simp [intOf]; omega
  ·
   obtain rfl : j = cs.length := by omega
   have hltI : ¬ (cs.length : Int) < (cs.length : Int) := by omega
   have HND := h_ hnod
   have HO := h_ hown
   have HNL := h_ hnl
   have HSW := h_ (HSN.out.kept (BelowS.one cb (List.mem_singleton.2 rfl)) (by simpa using nMF))
   clear hnod hown hnl
   go_wp2_with fail
   go_ret2
   refine ⟨⟨F, rfl, y, by have := HP0.out; have := BY.size; omega, y7.heap.size, ⟨ca1, cc1, wa1, wc1, na, nc, M, .func fn fa fb⟩, seen, ns, ⟨⟨hC1, cby, rF, gF, lF7, by rw [List.length_map]; exact HNL.out, ?_⟩, HSW.out, gyM, lM7, nMF, ?_⟩⟩, by first | exact cbw | (rw [HP0.out] at cbw; exact cbw) | (rw [← HP0.out]; exact cbw)⟩
   ·
    rw [List.length_map, HNL.out]; exact HO.out
   ·
    rw [HNL.out]; exact HND.out
end
end
section
open Go.RowKit Go.Shelf
theorem fTick_nil (w : World) : Calls Tryz.prog 6 #[.pointer none] w fun e w' => e = .returned (.tuple #[]) ∧ w' = w := by
 go_enter Tryz.func6, Tryz.ntmps6
 go_wp2_with fail
 refine bodyPost_ret (results_none rfl _ _ _) rfl ?_
 exact ⟨rfl, rfl⟩
theorem fCalm_nil (n : Int) (w : World) : Calls Tryz.prog 7 #[.pointer none, .int .i64 n] w fun e w' => e = .returned (.tuple #[]) ∧ w' = w := by
 go_enter Tryz.func7, Tryz.ntmps7
 go_wp2_with fail
 refine bodyPost_ret (results_none rfl _ _ _) rfl ?_
 exact ⟨rfl, rfl⟩
theorem fRuns_nil (i : Int) (w : World) : Calls Tryz.prog 27 #[.pointer none, .int .i64 i] w fun e w' => e = .returned (.pointer none) ∧ w' = w := by
 go_enter Tryz.func27, Tryz.ntmps27
 go_wp2_with fail
 go_ret
 exact ⟨rfl, rfl⟩
theorem fInject_nil (i q : Int) (s : List UInt8) (w : World) : Calls Tryz.prog 8 #[.pointer none, .int .i64 i, .int .i64 q, .string ⟨s.toArray⟩] w fun e w' => e = .returned (.int .i64 1) ∧ w' = w := by
 go_enter Tryz.func8, Tryz.ntmps8
 go_wp2_with fail
 (with_reducible refine (fRuns_nil _ _).mono ?_)
 rintro e w' ⟨rfl, rfl⟩
 go_wp2_with fail
 go_ret
 exact ⟨rfl, rfl⟩
theorem fAt_nil (i : Int) (w : World) : Calls Tryz.prog 29 #[.pointer none, .int .i64 i] w fun e w' => e = .returned (.tuple #[.int .i64 0, .int .i64 1]) ∧ w' = w := by
 go_enter Tryz.func29, Tryz.ntmps29
 go_wp2_with fail
 go_ret2
 exact ⟨rfl, rfl⟩
theorem fCome_nil (i : Int) (b : Bool) (w : World) : Calls Tryz.prog 9 #[.pointer none, .int .i64 i, .bool b] w fun e w' => e = .returned (.int .i64 1) ∧ w' = w := by
 go_enter Tryz.func9, Tryz.ntmps9
 go_wp2_with fail
 (with_reducible refine (fAt_nil _ _).mono ?_)
 rintro e w' ⟨rfl, rfl⟩
 go_wp2_with fail
 go_ret
 exact ⟨rfl, rfl⟩
theorem fLose_nil (i : Int) (w : World) : Calls Tryz.prog 10 #[.pointer none, .int .i64 i] w fun e w' => e = .returned (.int .i64 1) ∧ w' = w := by
 go_enter Tryz.func10, Tryz.ntmps10
 go_wp2_with fail
 (with_reducible refine (fAt_nil _ _).mono ?_)
 rintro e w' ⟨rfl, rfl⟩
 go_wp2_with fail
 go_ret
 exact ⟨rfl, rfl⟩
theorem fSpoil_nil (i a b : Int) (w : World) : Calls Tryz.prog 11 #[.pointer none, .int .i64 i, .int .i64 a, .int .i64 b] w fun e w' => e = .returned (.int .i64 1) ∧ w' = w := by
 go_enter Tryz.func11, Tryz.ntmps11
 go_wp2_with fail
 (with_reducible refine (fAt_nil _ _).mono ?_)
 rintro e w' ⟨rfl, rfl⟩
 go_wp2_with fail
 go_ret
 exact ⟨rfl, rfl⟩
theorem fCrash_nil (i : Int) (w : World) : Calls Tryz.prog 12 #[.pointer none, .int .i64 i] w fun e w' => e = .returned (.int .i64 1) ∧ w' = w := by
 go_enter Tryz.func12, Tryz.ntmps12
 go_wp2_with fail
 go_ret
 exact ⟨rfl, rfl⟩
theorem fStart_nil (i : Int) (w : World) : Calls Tryz.prog 13 #[.pointer none, .int .i64 i] w fun e w' => e = .returned (.int .i64 1) ∧ w' = w := by
 go_enter Tryz.func13, Tryz.ntmps13
 go_wp2_with fail
 go_ret
 exact ⟨rfl, rfl⟩
theorem fPool_nil (w : World) : Calls Tryz.prog 14 #[.pointer none] w fun e w' => e = .returned (.int .i64 0) ∧ w' = w := by
 go_enter Tryz.func14, Tryz.ntmps14
 go_wp2_with fail
 go_ret
 exact ⟨rfl, rfl⟩
theorem fTold_nil (w : World) : Calls Tryz.prog 15 #[.pointer none] w fun e w' => e = .returned (.slice none 0 0) ∧ w' = w := by
 go_enter Tryz.func15, Tryz.ntmps15
 go_wp2_with fail
 go_ret
 exact ⟨rfl, rfl⟩
theorem fGiven_nil (w : World) : Calls Tryz.prog 16 #[.pointer none] w fun e w' => e = .returned (.slice none 0 0) ∧ w' = w := by
 go_enter Tryz.func16, Tryz.ntmps16
 go_wp2_with fail
 go_ret
 exact ⟨rfl, rfl⟩
theorem fState_nil (i q : Int) (w : World) : Calls Tryz.prog 17 #[.pointer none, .int .i64 i, .int .i64 q] w fun e w' => e = .returned (.int .i64 0) ∧ w' = w := by
 go_enter Tryz.func17, Tryz.ntmps17
 go_wp2_with fail
 (with_reducible refine (fRuns_nil _ _).mono ?_)
 rintro e w' ⟨rfl, rfl⟩
 go_wp2_with fail
 (with_reducible refine (nState_nil _ _).mono ?_)
 rintro e w' ⟨rfl, rfl⟩
 go_wp2_with fail
 go_ret
 exact ⟨rfl, rfl⟩
theorem fUp_nil (i q : Int) (w : World) : Calls Tryz.prog 18 #[.pointer none, .int .i64 i, .int .i64 q] w fun e w' => e = .returned (.bool false) ∧ w' = w := by
 go_enter Tryz.func18, Tryz.ntmps18
 go_wp2_with fail
 (with_reducible refine (fRuns_nil _ _).mono ?_)
 rintro e w' ⟨rfl, rfl⟩
 go_wp2_with fail
 (with_reducible refine (nUp_nil _ _).mono ?_)
 rintro e w' ⟨rfl, rfl⟩
 go_wp2_with fail
 go_ret
 exact ⟨rfl, rfl⟩
section
variable {w1 : World} {B : Nat} {w : World} {F : Nat} {x : FabX} {r k p d room : Int} {seed : List UInt8} {cs : List ConfX} {nw : Nat} {ns : List (Option Nat)} {told given : Value}
theorem FabU.lF (h : FabU w1 B w F x r k p d room seed cs nw ns told given) : F < w.heap.size := lt_of_row (i := 0) (by rw [h.rF]; simp [FabX.row])
theorem FabU.below {w' : World} (h : FabU w1 B w F x r k p d room seed cs nw ns told given) (hb : Below w.heap.size w w') : FabU w1 B w' F x r k p d room seed cs nw ns told given :=
 ⟨h.confs, h.low.trans (hb.mono h.low.size), (row_below hb h.lF).trans h.rF, h.gF, h.ltF, h.len, h.own.below hb⟩
theorem FabU.cell (h : FabU w1 B w F x r k p d room seed cs nw ns told given) {i : Nat} (hi : i < ns.length) : ∃ g, x.na = some ⟨g, 0, none⟩ ∧ g < w.heap.size ∧ B ≤ g ∧ w.cell? ⟨g, i, none⟩ = some (.pointer (ns[i].map fun N => ⟨N, 0, none⟩)) := by
 obtain ⟨g, cap, cur, e, hB, hz, _, _, _⟩ := h.own.setCell (k := i) (q := 0) (by simpa using hi) (by decide) (.bool true)
 simp only [Value.slice.injEq] at e
 refine ⟨g, e.1, hz, hB, ?_⟩
 obtain ⟨a, c, e2, he⟩ := h.own.elems
 obtain ⟨b, off, e3, hb, hr⟩ := he.2 i (nodO ns[i]) (by rw [List.getElem?_map, List.getElem?_eq_getElem hi]; rfl)
 simp only [Value.slice.injEq] at e2
 rw [e.1] at e2
 rw [← e2.1] at e3
 simp only [Option.some.injEq, Addr.mk.injEq, and_true] at e3
 obtain ⟨rfl, rfl⟩ := e3
 have h0 := hr w rfl 0 (.pointer (ns[i].map fun N => ⟨N, 0, none⟩)) rfl
 simpa using h0
theorem FabU.set (h : FabU w1 B w F x r k p d room seed cs nw ns told given) {i : Nat} (hi : i < ns.length) {g : Nat} (hg : x.na = some ⟨g, 0, none⟩) (v : Option Nat) : ∃ w3, w.setCell ⟨g, i, none⟩ (.pointer (v.map fun N => ⟨N, 0, none⟩)) = w3 ∧ BelowBut w.heap.size g w w3 ∧ FabU w1 B w3 F x r k p d room seed cs nw (ns.set i v) told given := by
 obtain ⟨g', cap, cur, e, hB, hz, hr, hc, ho⟩ := h.own.setCell (k := i) (q := 0) (by simpa using hi) (by decide) (.pointer (v.map fun N => ⟨N, 0, none⟩))
 simp only [Value.slice.injEq] at e
 rw [hg] at e
 simp only [Option.some.injEq, Addr.mk.injEq, and_true] at e
 obtain ⟨rfl, _, rfl⟩ := e
 have hF := h.ltF
 have hgF := h.gF
 have hi1 : i * 1 + 0 = i := by omega
 rw [hi1] at hc ho
 refine ⟨_, setCell_row _ (by rw [hr]; omega), BelowBut.set _ _, h.confs, h.low.trans (Below.setRow (Below.refl _ _) (by omega) _), ?_, h.gF, h.ltF, by rw [List.length_set]; exact h.len, ?_⟩
 ·
  rw [row_setRow_other _ _ _ (by omega)]; exact h.rF
 ·
  rw [hr, List.length_set]
  have e1 : (ns.map nodO).modify i (fun y => y.set 0 (.pointer (v.map fun N => ⟨N, 0, none⟩))) = (ns.set i v).map nodO := by
   refine List.ext_getElem? fun j => ?_
   rw [List.getElem?_modify, List.getElem?_map, List.getElem?_map, List.getElem?_set]
   by_cases hj : i = j
   ·
    subst hj
    rw [List.getElem?_eq_getElem hi]
    simp [nodO, hi]
   ·
    rw [if_neg hj]
    simp [hj]
  rw [← e1]
  exact ho
theorem FabU.kept {w' : World} {S : List Nat} (h : FabU w1 B w F x r k p d room seed cs nw ns told given) (hb : BelowS w.heap.size S w w') (hS : ∀ b ∈ S, B ≤ b) (ho : ∀ b ∈ S, (Value.slice x.na ns.length x.nc).ownBlock ≠ some b) : FabU w1 B w' F x r k p d room seed cs nw ns told given := by
 have hF := h.ltF
 have hgF := h.gF
 refine ⟨h.confs, h.low.trans ((hb.mono h.low.size).below (Nat.le_refl _) fun s hs => by have := hS s hs; omega), (hb.row h.lF fun hm => by have := hS F hm; omega).trans h.rF, h.gF, h.ltF, h.len, h.own.keep fun kk hk => hb.block kk (h.own.blk hk).2.1 fun hm => ho kk hm hk⟩
theorem FabU.setF {w' : World} (h : FabU w1 B w F x r k p d room seed cs nw ns told given) (told' given' : Value) (hb : BelowBut w.heap.size F w w') (hr : row w' F = x.row r k p d room seed cs.length nw told' given') : FabU w1 B w' F x r k p d room seed cs nw ns told' given' := by
 have hF := h.ltF
 have hgF := h.gF
 exact ⟨h.confs, h.low.trans ((hb.mono h.low.size).below h.gF), hr, h.gF, h.ltF, h.len, h.own.keep fun kk hk => hb.block kk (h.own.blk hk).2.1 (by have := (h.own.blk hk).1; omega)⟩
variable (h : FabU w1 B w F x r k p d room seed cs nw ns told given)
include h
theorem fRuns_out (i : Int) (hi : i < 0 ∨ (ns.length : Int) ≤ i) : Calls Tryz.prog 27 #[.pointer (some ⟨F, 0, none⟩), .int .i64 i] w fun e w' => e = .returned (.pointer none) ∧ w' = w := by
 have hF := h.rF
 have hl := h.len
 unfold FabX.row at hF
 rw [hl] at hi
 go_enter Tryz.func27, Tryz.ntmps27
 by_cases h0 : i < 0
 ·
  have d0 : decide (i < 0) = true := decide_eq_true h0
  go_wp2_with fail
  go_ret
  exact ⟨rfl, rfl⟩
 ·
  have d0 : decide (i < 0) = false := decide_eq_false h0
  have h1 : (cs.length : Int) ≤ i := by omega
  have d1 : decide ((cs.length : Int) ≤ i) = true := decide_eq_true h1
  go_wp2_with fail
  go_ret
  exact ⟨rfl, rfl⟩
theorem fRuns_in (i : Nat) (hi : i < ns.length) : Calls Tryz.prog 27 #[.pointer (some ⟨F, 0, none⟩), .int .i64 (i : Int)] w fun e w' => e = .returned (.pointer (ns[i].map fun N => ⟨N, 0, none⟩)) ∧ w' = w := by
 have hF := h.rF
 have hl := h.len
 obtain ⟨g, hg, hz, _, hc⟩ := h.cell hi
 obtain ⟨v, hv⟩ : ∃ v, (ns[i].map fun N => (⟨N, 0, none⟩ : Addr)) = v := ⟨_, rfl⟩
 rw [hv] at hc ⊢
 unfold FabX.row at hF
 rw [hg] at hF
 rw [hl] at hi
 have h0 : ¬ (i : Int) < 0 := by omega
 have d0 : decide ((i : Int) < 0) = false := decide_eq_false h0
 have h1 : (i : Int) < (cs.length : Int) := by omega
 have d1 : decide ((cs.length : Int) ≤ (i : Int)) = false := decide_eq_false (by omega)
 have hc2 : w.cell? ⟨g, 0 + i, none⟩ = some (.pointer v) := by rw [Nat.zero_add]; exact hc
 clear hv hg
 go_enter Tryz.func27, Tryz.ntmps27
 go_wp2_with fail
 go_ret
 exact ⟨rfl, rfl⟩
theorem fAt_none (i : Int) : Calls Tryz.prog 29 #[.pointer (some ⟨F, 0, none⟩), .int .i64 i] w fun e w' => e = .returned (.tuple #[.int .i64 0, .int .i64 9]) ∧ w' = w := by
 have hF := h.rF
 unfold FabX.row at hF
 go_enter Tryz.func29, Tryz.ntmps29
 go_wp2_with fail
 go_ret2
 exact ⟨rfl, rfl⟩
theorem fCome_none (i : Int) (b : Bool) : Calls Tryz.prog 9 #[.pointer (some ⟨F, 0, none⟩), .int .i64 i, .bool b] w fun e w' => e = .returned (.int .i64 9) ∧ w' = w := by
 have HA := h_ (fAt_none h i)
 go_enter Tryz.func9, Tryz.ntmps9
 go_wp2_with fail
 (with_reducible refine HA.out.mono ?_)
 rintro e w' ⟨rfl, rfl⟩
 go_wp2_with fail
 go_ret
 exact ⟨rfl, rfl⟩
theorem fLose_none (i : Int) : Calls Tryz.prog 10 #[.pointer (some ⟨F, 0, none⟩), .int .i64 i] w fun e w' => e = .returned (.int .i64 9) ∧ w' = w := by
 have HA := h_ (fAt_none h i)
 go_enter Tryz.func10, Tryz.ntmps10
 go_wp2_with fail
 (with_reducible refine HA.out.mono ?_)
 rintro e w' ⟨rfl, rfl⟩
 go_wp2_with fail
 go_ret
 exact ⟨rfl, rfl⟩
theorem fSpoil_none (i a b : Int) : Calls Tryz.prog 11 #[.pointer (some ⟨F, 0, none⟩), .int .i64 i, .int .i64 a, .int .i64 b] w fun e w' => e = .returned (.int .i64 9) ∧ w' = w := by
 have HA := h_ (fAt_none h i)
 go_enter Tryz.func11, Tryz.ntmps11
 go_wp2_with fail
 (with_reducible refine HA.out.mono ?_)
 rintro e w' ⟨rfl, rfl⟩
 go_wp2_with fail
 go_ret
 exact ⟨rfl, rfl⟩
theorem fUp_out (i q : Int) (hi : i < 0 ∨ (ns.length : Int) ≤ i) : Calls Tryz.prog 18 #[.pointer (some ⟨F, 0, none⟩), .int .i64 i, .int .i64 q] w fun e w' => e = .returned (.bool false) ∧ w' = w := by
 have HR := h_ (fRuns_out h i hi)
 go_enter Tryz.func18, Tryz.ntmps18
 go_wp2_with fail
 (with_reducible refine HR.out.mono ?_)
 rintro e w' ⟨rfl, rfl⟩
 go_wp2_with fail
 (with_reducible refine (nUp_nil _ _).mono ?_)
 rintro e w' ⟨rfl, rfl⟩
 go_wp2_with fail
 go_ret
 exact ⟨rfl, rfl⟩
theorem fUp_in (i : Nat) (hi : i < ns.length) (q : Int) (b : Bool) (hu : ∀ W, Below w.heap.size w W → Calls Tryz.prog 35 #[.pointer (ns[i].map fun N => ⟨N, 0, none⟩), .int .i64 q] W fun e w' => e = .returned (.bool b) ∧ Below W.heap.size W w') : Calls Tryz.prog 18 #[.pointer (some ⟨F, 0, none⟩), .int .i64 (i : Int), .int .i64 q] w fun e w' => e = .returned (.bool b) ∧ Below w.heap.size w w' := by
 have HR := h_ (fRuns_in h i hi)
 have HU := h_ hu
 clear hu
 go_enter Tryz.func18, Tryz.ntmps18
 go_wp2_with fail
 (with_reducible refine HR.out.mono ?_)
 rintro e w' ⟨rfl, rfl⟩
 go_wp2_with fail
 (with_reducible refine (HU.out _ (Below.refl _ _)).mono ?_)
 rintro e w3 ⟨rfl, b3⟩
 go_wp2_with fail
 go_ret
 exact ⟨rfl, b3⟩
theorem fCrash_out (i : Int) (hi : i < 0 ∨ (ns.length : Int) ≤ i) : Calls Tryz.prog 12 #[.pointer (some ⟨F, 0, none⟩), .int .i64 i] w fun e w' => e = .returned (.int .i64 7) ∧ w' = w := by
 have HR := h_ (fRuns_out h i hi)
 go_enter Tryz.func12, Tryz.ntmps12
 go_wp2_with fail
 (with_reducible refine HR.out.mono ?_)
 rintro e w' ⟨rfl, rfl⟩
 go_wp2_with fail
 go_ret
 exact ⟨rfl, rfl⟩
theorem fCrash_none (i : Nat) (hi : i < ns.length) (hn : ns[i] = none) : Calls Tryz.prog 12 #[.pointer (some ⟨F, 0, none⟩), .int .i64 (i : Int)] w fun e w' => e = .returned (.int .i64 7) ∧ w' = w := by
 have hr := fRuns_in h i hi
 rw [hn] at hr
 simp only [Option.map_none] at hr
 have HR := h_ hr
 clear hr hn
 go_enter Tryz.func12, Tryz.ntmps12
 go_wp2_with fail
 (with_reducible refine HR.out.mono ?_)
 rintro e w' ⟨rfl, rfl⟩
 go_wp2_with fail
 go_ret
 exact ⟨rfl, rfl⟩
theorem fCrash_ok (i : Nat) (hi : i < ns.length) (N : Nat) (hn : ns[i] = some N) : Calls Tryz.prog 12 #[.pointer (some ⟨F, 0, none⟩), .int .i64 (i : Int)] w fun e w' => e = .returned (.int .i64 0) ∧ FabU w1 B w' F x r k p d room seed cs nw (ns.set i none) told given ∧ Below B w w' := by
 have hr := fRuns_in h i hi
 rw [hn] at hr
 simp only [Option.map_some] at hr
 have HR := h_ hr
 have hF := h.rF
 have hl := h.len
 obtain ⟨g, hg, hz, hB, hc⟩ := h.cell hi
 obtain ⟨w3, hw3, b3, hU⟩ := h.set hi hg none
 simp only [Option.map_none] at hw3
 unfold FabX.row at hF
 rw [hg] at hF
 have hi2 := hi
 rw [hl] at hi2
 have h0 : ¬ (i : Int) < 0 := by omega
 have h1 : (i : Int) < (cs.length : Int) := by omega
 obtain ⟨g', cap', cur, e', _, _, hcur, hcs, _⟩ := h.own.setCell (k := i) (q := 0) (by simpa using hi) (by decide) (.bool true)
 simp only [Value.slice.injEq] at e'
 rw [hg] at e'
 simp only [Option.some.injEq, Addr.mk.injEq, and_true] at e'
 obtain ⟨rfl, _, rfl⟩ := e'
 have hcz : i < (row w g).size := by rw [hcur]; omega
 have hc2 : w.cell? ⟨g, 0 + i, none⟩ = some (.pointer (ns[i].map fun N => ⟨N, 0, none⟩)) := by rw [Nat.zero_add]; exact hc
 have hf := frozen_of_row' hcz
 have HUU := h_ hU
 have hbB : Below B w w3 := ⟨b3.os, b3.tape, b3.output, b3.size, fun kk hk => b3.block kk (by omega) (by omega)⟩
 clear hr hn hU hcur hcs b3
 go_enter Tryz.func12, Tryz.ntmps12
 go_wp2_with fail
 (with_reducible refine HR.out.mono ?_)
 rintro e w' ⟨rfl, rfl⟩
 go_wp2_with fail
 (try rw [hw3])
 go_ret
 exact ⟨rfl, HUU.out, hbB⟩
end
end
section
open Go.RowKit Go.Shelf
theorem evInfo : (Tryz.prog.info? 61).map (fun i => (i.zero.map (·.cells.size), i.size, i.bytes)) = some (some 3, 3, 32) := by kernel_rfl
def evN (i : Nat) (x : Nat × List UInt8) : List Value := [.int .i64 (i : Int), .int .i64 (x.1 : Int), .string ⟨x.2.toArray⟩]
theorem outN_load {W : World} {b o : Nat} {x : Nat × List UInt8} (h : W.rangeAt b o (outN x)) : (loadS 111 (.pointer (some ⟨b, o, none⟩))).run Tryz.prog W = .ok (.agg (outN x).toArray) W := run_loadS_at h (by simp [outN])
section
variable {w : World} {F : Nat} {x : FabX} {r k p d room : Int} {seed : List UInt8} {n nw nn : Nat} {given : Value}
theorem fOut_any (given : Value) (hF : row w F = x.row r k p d room seed n nw (.slice none 0 0) given) {seen : List (Int × Int)} (hs : SeenT w x.M seen) (hM : x.M ≠ F) (i : Nat) (la : Option Addr) (lc : Nat) (outs : List (Nat × List UInt8)) (hl : ElemsOff [F] w la 3 (outs.map outN)) (hn : outs.length ≤ 1000) :
  Calls Tryz.prog 23 #[.pointer (some ⟨F, 0, none⟩), .int .i64 (i : Int), .slice la outs.length lc] w fun e w' => e = .returned (.tuple #[]) ∧ (∃ told, row w' F = x.row r k p d room seed n nw told given ∧ OwnL w' w.heap.size 61 3 told (outs.map (evN i))) ∧ BelowBut w.heap.size F w w' := by
 have hnI : (outs.length : Int) ≤ 1000 := by omega
 have lF : F < w.heap.size := lt_of_row (i := 0) (by rw [hF]; simp [FabX.row])
 unfold FabX.row at hF ⊢
 go_enter Tryz.func23, Tryz.ntmps23
 go_wp2_with fail
 go_loopw [12] (fun u wr => ∃ (j : Nat) (ta : Option Addr) (tc : Nat), j ≤ outs.length ∧ u = .int .i64 j ∧ row wr F = #[.slice x.ca n x.cc, .slice x.wa nw x.wc, .int .i64 r, .int .i64 k, .int .i64 p, .int .i64 d, .int .i64 room, .string ⟨seed.toArray⟩, .slice x.na n x.nc, .map (some x.M), .slice none 0 0, .slice ta j tc, given, x.dv] ∧ OwnL wr w.heap.size 61 3 (.slice ta j tc) ((outs.take j).map (evN i)) ∧ BelowBut w.heap.size F w wr) (fun u _ => outs.length - (intOf u).toNat)
 case atStart => exact ⟨0, none, 0, by omega, rfl, hF, by rw [List.take_zero]; exact OwnL.nil _ _ _ _, BelowBut.of (Below.refl _ _)⟩
 case round =>
  obtain ⟨j, ta, tc, hj, rfl, rF, hown, cb⟩ := hrel
  have zb := cb.size
  by_cases hlt : j < outs.length
  ·
   have hltI : (j : Int) < (outs.length : Int) := by omega
   obtain ⟨ob, ooff, rfl, hob, hoF, hor⟩ := hl.2 j (outN outs[j]) (by rw [List.getElem?_map, List.getElem?_eq_getElem hlt]; rfl)
   obtain ⟨po, hpo⟩ : ∃ o, outs[j] = o := ⟨_, rfl⟩
   rw [hpo] at hor
   obtain ⟨o, ho⟩ : ∃ o, ooff + j * 3 = o := ⟨_, rfl⟩
   have hld := outN_load (ho ▸ hor wr (cb.block ob hob (by simpa using hoF)))
   unfold outN at hld
   obtain ⟨trows, htr⟩ : ∃ l, (outs.take j).map (evN i) = l := ⟨_, rfl⟩
   rw [htr] at hown
   have htl : trows.length = j := by rw [← htr, List.length_map, List.length_take]; omega
   have htk : trows ++ [[Value.int .i64 (i : Int), Value.int .i64 (po.1 : Int), Value.string ⟨po.2.toArray⟩]] = (outs.take (j + 1)).map (evN i) := by
    rw [List.take_add_one, List.getElem?_eq_getElem hlt, hpo, ← htr]; simp [evN]
   have HTK := h_ htk
   have HTL := h_ htl
   clear htk htr hor
   obtain ⟨w4, hw4⟩ : ∃ y, wr.alloc (.cells #[Value.int .i64 (po.1 : Int), .bool false, .string ⟨po.2.toArray⟩] 111) = y := ⟨_, rfl⟩
   have b4 : Below wr.heap.size wr w4 := by rw [← hw4]; exact ba_
   have z4 : wr.heap.size < w4.heap.size := by rw [← hw4, alloc_sizeW]; omega
   have r4 : row w4 wr.heap.size = #[Value.int .i64 (po.1 : Int), .bool false, .string ⟨po.2.toArray⟩] := by rw [← hw4]; exact row_alloc_at _ _ _ rfl
   have rF4 := (row_below b4 (show F < wr.heap.size by omega)).trans rF
   have own4 := hown.below b4
   have hs4 := (hs.kept (BelowS.one cb (List.mem_singleton.2 rfl)) (by simpa using hM)).below b4
   obtain ⟨p1, p2, hlk⟩ := hs4.has (i : Int) (po.1 : Int)
   obtain ⟨kn, hkn⟩ : ∃ kn, seen.contains ((i : Int), (po.1 : Int)) = kn := ⟨_, rfl⟩
   rw [hkn] at hlk
   have cb4 : BelowBut w.heap.size F w w4 := cb.trans ((BelowBut.of b4).mono zb)
   have lF4 : F < w4.heap.size := by omega
   have kA : w.heap.size ≤ wr.heap.size := zb
   have hnA : ∀ kk, (Value.slice ta j tc).ownBlock = some kk → kk < wr.heap.size := fun kk hk => (hown.blk hk).2.1
   have HO4 := h_ own4
   clear own4 hown hkn hs4
   go_wp2_with fail
   (try rw [hw4])
   (try clear hw4)
   obtain ⟨A, hA⟩ : ∃ A, wr.heap.size = A := ⟨_, rfl⟩
   have HA := h_ hA
   rw [hA] at r4 z4 kA hnA
   (try rw [hA])
   clear hA
   have hG : GrowP fun W => Below w4.heap.size w4 W := grow_base w4
   refine rgX_ [(F, #[.slice x.ca n x.cc, .slice x.wa nw x.wc, .int .i64 r, .int .i64 k, .int .i64 p, .int .i64 d, .int .i64 room, .string ⟨seed.toArray⟩, .slice x.na n x.nc, .map (some x.M), .slice none 0 0, .slice ta j tc, given, x.dv]), (A, #[Value.int .i64 (po.1 : Int), .bool false, .string ⟨po.2.toArray⟩])] (fun W => Below w4.heap.size w4 W) hG (Below.refl _ _) (fun hS => ?_)
   refine sp 0 hG hS ?_
   refine sp 1 hG hS ?_
   refine sp 2 hG hS ?_
   refine sp 3 hG hS ?_
   refine sp 4 hG hS ?_
   refine sp 5 hG hS ?_
   refine sp 6 hG hS ?_
   refine sp 7 hG hS ?_
   refine sp 8 hG hS ?_
   refine sp 9 hG hS ?_
   refine sp 10 hG hS ?_
   refine sp 11 hG hS ?_
   refine wpAnyS_var (XS.grow hG) (i := 12) (k := 13) (zi := (zeros 2 (Value.int .i64 0)).toArray) (cA := ([Value.int .i64 p1, Value.int .i64 p2]).toArray) opt_ opt_ ⟨rfl, rfl, fun a w => by go_simp; (refine ⟨?_, ?_⟩ <;> rfl)⟩ kr_ kr_ rfl rfl (by simp [*]) (by simp) (fun A w1 hr => by
    simp only [Act.put, List.setIfInBounds_toArray, List.set_cons_zero, List.set_cons_succ, ptr]
    go_simp
    try rfl) hS (fun D w5 gD zD bw5 rD hS => ?_)
   (try simp only [Act.put, List.setIfInBounds_toArray, List.set_cons_zero, List.set_cons_succ])
   simp only [ptr]
   refine sp 14 hG hS ?_
   refine wpAnyR_done kr_ (fun w6 bw6 => ?_) _
   obtain ⟨⟨rF5, lF5, rA5, lA5, _⟩, b45⟩ := hS
   have zw6 := bw6.size
   have rF6 := (row_below bw6 lF5).trans rF5
   have rA6 := (row_below bw6 lA5).trans rA5
   have b46 : Below w4.heap.size w4 w6 := b45.trans (bw6.mono b45.size)
   have cb6 : BelowBut w.heap.size F w w6 := cb4.trans ((BelowBut.of b46).mono (by omega))
   have own6 := HO4.out.below b46
   have lA6 : A < w6.heap.size := Nat.lt_of_lt_of_le lA5 zw6
   have lF6 : F < w6.heap.size := Nat.lt_of_lt_of_le lF5 zw6
   have HO6 := h_ own6
   have kw6 : w.heap.size ≤ w6.heap.size := by omega
   clear own6 b46 b45 rA5 rF5 bw6 rF4 r4 cb4 HO4 hG hld hlk
   simp only [Exit.then]
   go_wp2_with fail
   have hF0 : ∀ W, Below w.heap.size w6 W → W.cell? ⟨F, 11, none⟩ = some (.slice ta j tc) := fun W hW => by
    have e := (row_below hW lF).trans rF6
    rw [cell_of_row' (by rw [e]; simp), e]; rfl
   have hG5 : GrowP fun W => (row W A = #[Value.int .i64 (po.1 : Int), .bool false, .string ⟨po.2.toArray⟩] ∧ A < W.heap.size) ∧ Below w.heap.size w6 W := fun W W' hX hb => ⟨⟨(row_below hb hX.1.2).trans hX.1.1, Nat.lt_of_lt_of_le hX.1.2 hb.size⟩, hX.2.trans (hb.mono (by have := hX.2.size; omega))⟩
   refine wp_region_beginKG 15 _ hG5 rfl ⟨⟨rA6, lA6⟩, Below.refl _ _⟩ (fun hS => ?_)
   refine kf 0 hG5 hS ?_
   refine kf 1 hG5 hS ?_
   refine kf 2 hG5 hS ?_
   refine kf 3 hG5 hS ?_
   refine kg 4 hG5 hS ?_
   refine kf 5 hG5 hS ?_
   refine kf 6 hG5 hS ?_
   refine kg 7 hG5 hS ?_
   refine kf 8 hG5 hS ?_
   refine kg 9 hG5 hS ?_
   refine kf 10 hG5 hS ?_
   refine wpAnyK_op1 11 kr_ (by decide) (fun u5 hu5 => ?_)
   replace hu5 : Below w6.heap.size w6 u5 := below_step (Below.drew (Below.refl _ _)) hu5
   have zu5 := hu5.size
   refine wpOp_step rfl (fun K hK => ?_)
   go_simp
   obtain ⟨u6, hu6⟩ : ∃ y, u5.alloc (.cells #[Value.int .i64 (i : Int), .int .i64 (po.1 : Int), .string ⟨po.2.toArray⟩] 61) = y := ⟨_, rfl⟩
   have b6 : Below u5.heap.size u5 u6 := by rw [← hu6]; exact ba_
   have r6 : row u6 u5.heap.size = #[Value.int .i64 (i : Int), .int .i64 (po.1 : Int), .string ⟨po.2.toArray⟩] := by rw [← hu6]; exact row_alloc_at _ _ _ rfl
   have z6 : u6.heap.size = u5.heap.size + 1 := by rw [← hu6, alloc_sizeW]
   rw [hu6]
   have b66 : Below w6.heap.size w6 u6 := hu5.trans (b6.mono zu5)
   have hS : XS [] (fun W => (row W A = #[Value.int .i64 (po.1 : Int), .bool false, .string ⟨po.2.toArray⟩] ∧ A < W.heap.size) ∧ Below w.heap.size w6 W) u6 := ⟨trivial, hG5 _ _ ⟨⟨rA6, lA6⟩, Below.refl _ _⟩ b66⟩
   refine hK _ _ ⟨hS, ?_⟩
   clear hK K hu6
   (try simp only [Act.put, List.setIfInBounds_toArray, List.set_cons_zero, List.set_cons_succ])
   refine wpAnyK_op1 12 kr_ (by decide) (fun u7 hu7 => ?_)
   have zu7 := hu7.size
   have r7 := (row_below hu7 (by omega)).trans r6
   have b67 : Below w6.heap.size w6 u7 := b66.trans (hu7.mono b66.size)
   have own7 := HO6.out.below b67
   have X7 := hG5 _ _ ⟨⟨rA6, lA6⟩, Below.refl _ _⟩ b67
   refine wpOp_wp opt_ rfl ?_
   refine wp_appendL (t := 37) rfl Tryz.underlying37 evInfo (by decide) (by decide) w.heap.size _ trows rfl own7 u5.heap.size 1 [Value.int .i64 (i : Int), .int .i64 (po.1 : Int), .string ⟨po.2.toArray⟩] rfl r7 rfl rfl (by have := HTL.out; omega) (by omega) ?_
   intro v8 u8 hown8 b8 hk8
   have zu8 := b8.size
   obtain ⟨ta8, tc8, hv8, _⟩ := hown8.elems
   simp only [List.length_append, List.length_singleton, HTL.out] at hv8
   subst hv8
   have b68 : Below w.heap.size w6 u8 := (b67.mono kw6).trans b8
   have X8 : (row u8 A = #[Value.int .i64 (po.1 : Int), .bool false, .string ⟨po.2.toArray⟩] ∧ A < u8.heap.size) ∧ Below w.heap.size w6 u8 := ⟨⟨(row_of_block (hk8 A X7.1.2 fun e2 => by have := hnA A e2; omega)).trans X7.1.1, by have := X7.1.2; omega⟩, b68⟩
   have hS : XS [] (fun W => (row W A = #[Value.int .i64 (po.1 : Int), .bool false, .string ⟨po.2.toArray⟩] ∧ A < W.heap.size) ∧ Below w.heap.size w6 W) u8 := ⟨trivial, X8⟩
   refine ⟨hS, ?_⟩
   (try simp only [Act.put, List.setIfInBounds_toArray, List.set_cons_zero, List.set_cons_succ])
   refine kf 13 hG5 hS ?_
   refine kf 14 hG5 hS ?_
   refine wpAnyK_store (k := 15) opt_ rfl rfl kr_ (fun y2 hy => ?_)
   have zy2 := hy.size
   have b6y : Below w.heap.size w6 y2 := b68.trans (hy.mono (by omega))
   have rFy := (row_below b6y lF).trans rF6
   obtain ⟨y3, hy3⟩ : ∃ y, y2.setRow F #[.slice x.ca n x.cc, .slice x.wa nw x.wc, .int .i64 r, .int .i64 k, .int .i64 p, .int .i64 d, .int .i64 room, .string ⟨seed.toArray⟩, .slice x.na n x.nc, .map (some x.M), .slice none 0 0, .slice ta8 (j + 1) tc8, given, x.dv] = y := ⟨_, rfl⟩
   refine ⟨y3, ?_, ⟨trivial, trivial⟩, fun hS => ?_⟩
   ·
    rw [← hy3]
    go_simp
    try exact ⟨_, _, rfl, rfl⟩
   refine wpAnyR_done kr_ (fun w9 b9 => ?_) _
   have zy3 : y3.heap.size = y2.heap.size := by rw [← hy3]; simp
   have z9 := b9.size
   have rF9 : row w9 F = #[.slice x.ca n x.cc, .slice x.wa nw x.wc, .int .i64 r, .int .i64 k, .int .i64 p, .int .i64 d, .int .i64 room, .string ⟨seed.toArray⟩, .slice x.na n x.nc, .map (some x.M), .slice none 0 0, .slice ta8 (j + 1) tc8, given, x.dv] := by
    rw [row_below b9 (by omega), ← hy3]
    exact row_setRow_same (by rw [rFy]; simp) (by rw [rFy]; simp)
   have hown9 := (hown8.below hy).keep (w' := y3) fun kk hk => by rw [← hy3]; exact setRow_block_other _ _ _ (by have := ((hown8.below hy).blk hk).1; omega)
   have hown9' := hown9.below b9
   rw [HTK.out] at hown9'
   have cb9 : BelowBut w.heap.size F w w9 := ((cb6.trans (BelowBut.of b6y)).trans (hy3 ▸ BelowBut.set _ _)).trans ((BelowBut.of b9).mono (by omega))
   have HO9 := h_ hown9'
   clear hS hy hy3 rFy b6y b9 hk8 hown8 hown9 hown9' own7 r7 X7 X8 b68 b8 b67 b66 r6 rA6 hF0 hG5 rF6
   go_wp2_with fail
   go_roundw
   case rel => exact ⟨j + 1, ta8, tc8, by omega, by simp, rF9, HO9.out, cb9⟩
   case measure => simp [intOf]; omega
  ·
   obtain rfl : j = outs.length := by omega
   have hltI : ¬ (outs.length : Int) < (outs.length : Int) := by omega
   rw [List.take_length] at hown
   have HO := h_ hown
   clear hown
   go_wp2_with fail
   go_end0
   exact ⟨rfl, ⟨_, rF, HO.out⟩, cb⟩
end
end
section
open Go.RowKit Go.Shelf
def backW (W w2 : World) (S : List Nat) : World := { W with heap := W.heap.mapIdx fun k o => if k ∈ S then (w2.heap[k]?).getD o else o }
theorem backW_size (W w2 : World) (S : List Nat) : (backW W w2 S).heap.size = W.heap.size := by simp [backW]
theorem backW_off (W w2 : World) {S : List Nat} {k : Nat} (h : k ∉ S) : (backW W w2 S).heap[k]? = W.heap[k]? := by
 simp [backW, h]
theorem backW_on (W w2 : World) {S : List Nat} {k : Nat} (h : k ∈ S) (h2 : k < w2.heap.size) (hz : w2.heap.size ≤ W.heap.size) : (backW W w2 S).heap[k]? = w2.heap[k]? := by
 simp only [backW, Array.getElem?_mapIdx, h, if_true]
 rw [Array.getElem?_eq_getElem (by omega : k < W.heap.size), Array.getElem?_eq_getElem h2]
 rfl
theorem backW_below (B : Nat) (W w2 : World) (S : List Nat) : BelowS B S (backW W w2 S) W := ⟨rfl, rfl, rfl, by rw [backW_size]; exact Nat.le_refl _, fun k _ hn => (backW_off W w2 hn).symm⟩
def LinksN (es : List (Option Nat)) (ps : List PortX) : Prop := es.length = ps.length ∧ ∀ (i : Nat) (x : PortX), ps[i]? = some x → ∃ e : Option Nat, es[i]? = some e ∧ e.isSome = x.link
def UpN (W : World) (N : Nat) (c : ConfX) : Prop := ∃ S pp, Quiet S W N pp ∧ LinksN pp.es c.ps
theorem UpN.below {W W' : World} {N : Nat} {c : ConfX} (h : UpN W N c) (hb : Below W.heap.size W W') : UpN W' N c := by
 obtain ⟨S, pp, h1, h2⟩ := h
 exact ⟨S, pp, h1.below hb, h2⟩
def tapX (c : ConfX) (q : Int) : Bool := decide (0 ≤ q) && (match c.ps[q.toNat]? with | some x => !x.link | none => false)
theorem UpN.up {W : World} {N : Nat} {c : ConfX} (h : UpN W N c) (q : Int) : Calls Tryz.prog 35 #[.pointer (some ⟨N, 0, none⟩), .int .i64 q] W fun e w' => e = .returned (.bool (tapX c q)) ∧ Below W.heap.size W w' := by
 obtain ⟨S, pp, h1, h2, h3⟩ := h
 by_cases h0 : 0 ≤ q ∧ q < (c.ps.length : Int)
 ·
  obtain ⟨n, rfl⟩ : ∃ n : Nat, q = n := ⟨q.toNat, by omega⟩
  have hn : n < c.ps.length := by omega
  obtain ⟨e, e1, e2⟩ := h3 n c.ps[n] (List.getElem?_eq_getElem hn)
  have hu := h1.up n (by omega)
  rw [List.getElem?_eq_getElem (by omega : n < pp.es.length), Option.some.injEq] at e1
  rw [e1, e2] at hu
  have : tapX c (n : Int) = !c.ps[n].link := by simp [tapX, hn]
  rw [this]
  exact hu
 ·
  have : tapX c q = false := by
   unfold tapX
   by_cases hq : 0 ≤ q
   ·
    rw [List.getElem?_eq_none (by omega)]; simp
   ·
    simp [hq]
  rw [this]
  exact h1.upNo q (by omega)
section
variable {w0 w2 : World} {N Q : Nat} {c : ConfX} {pa : Option Addr} {cap : Nat} {mac : Vector UInt8 6} {r k p d room : Int} {A : BrA} {sp ea : Option Addr} {ec : Nat} {es : List (Option Nat)}
theorem muts_lt (h : NodeT w0 w2 N Q c.id c.ma c.he c.de c.ageing pa cap c.ps mac r k p d room A sp ea ec es c.ps.length) : ∀ b ∈ Q :: A.muts, w0.heap.size ≤ b ∧ b < w2.heap.size := fun b hb => by
 have hN := h.gN
 rcases List.mem_cons.1 hb with rfl | hb
 ·
  exact ⟨h.gQ, h.ltQ⟩
 ·
  obtain ⟨l1, l2, l3, l4, l5, l6⟩ := h.br.lts
  have hb2 := mut_place hb
  refine ⟨by have := (h.lo b hb2).1; omega, ?_⟩
  simp only [List.mem_cons, List.not_mem_nil, or_false] at hb2
  rcases hb2 with rfl | rfl | rfl | rfl | rfl | rfl <;> assumption
theorem NodeT.back (h : NodeT w0 w2 N Q c.id c.ma c.he c.de c.ageing pa cap c.ps mac r k p d room A sp ea ec es c.ps.length) (hr : 1 ≤ room) (S : List Nat) (hS : ∀ b ∈ S, b ∈ Q :: A.muts) (W : World) (hz : w2.heap.size ≤ W.heap.size) (ha : ∀ X, w0.heap.size ≤ X → X < w2.heap.size → X ∉ S → W.heap[X]? = w2.heap[X]?) :
  ∃ pp, NodeF w0.heap.size (backW W w2 S) N c room pp A (brX c) ∧ pp.Q = Q := by
 have hm := muts_lt h
 obtain ⟨w1, e1, hT1⟩ := h.agree (backW W w2 S) (by rw [backW_size]; exact hz) fun X hX hX2 => by
  by_cases hs : X ∈ S
  ·
   exact backW_on W w2 hs hX2 hz
  ·
   rw [backW_off W w2 hs]; exact ha X hX hX2 hs
 obtain ⟨pp, hF, hQ⟩ := hT1.nodeF hr c rfl rfl
 rw [e1] at hF
 exact ⟨pp, hF, hQ⟩
end
theorem NodeF.upN {B0 : Nat} {w : World} {N : Nat} {c : ConfX} {room : Int} {p : NdP} {A : BrA} {s : BrS} (h : NodeF B0 w N c room p A s) : UpN w N c := ⟨_, p, h.q, h.es, h.link⟩
section
variable {w1 : World} {B : Nat} {w : World} {F : Nat} {x : FabX} {r k p d room : Int} {seed : List UInt8} {cs : List ConfX} {nw : Nat} {ns : List (Option Nat)} {told given : Value}
theorem fInject_out (h : FabU w1 B w F x r k p d room seed cs nw ns told given) (i q : Int) (s : List UInt8) (hi : i < 0 ∨ (ns.length : Int) ≤ i) : Calls Tryz.prog 8 #[.pointer (some ⟨F, 0, none⟩), .int .i64 i, .int .i64 q, .string ⟨s.toArray⟩] w fun e w' => e = .returned (.int .i64 7) ∧ w' = w := by
 have HR := h_ (fRuns_out h i hi)
 go_enter Tryz.func8, Tryz.ntmps8
 go_wp2_with fail
 (with_reducible refine HR.out.mono ?_)
 rintro e w' ⟨rfl, rfl⟩
 go_wp2_with fail
 go_ret
 exact ⟨rfl, rfl⟩
theorem fInject_no (h : FabU w1 B w F x r k p d room seed cs nw ns told given) (i : Nat) (q : Int) (s : List UInt8) (hi : i < ns.length) (N : Nat) (hn : ns[i] = some N) (c : ConfX) (hu : UpN w N c) (ht : tapX c q = false) : Calls Tryz.prog 8 #[.pointer (some ⟨F, 0, none⟩), .int .i64 (i : Int), .int .i64 q, .string ⟨s.toArray⟩] w fun e w' => e = .returned (.int .i64 1) ∧ Below w.heap.size w w' := by
 have hr := fRuns_in h i hi
 rw [hn] at hr
 simp only [Option.map_some] at hr
 have HR := h_ hr
 have hI : Calls Tryz.prog 28 #[.pointer (some ⟨N, 0, none⟩), .int .i64 q, .string ⟨s.toArray⟩] w fun e w' => e = .returned (.int .i64 1) ∧ Below w.heap.size w w' := by
  obtain ⟨S, pp, h1, h2, h3⟩ := hu
  by_cases h0 : 0 ≤ q ∧ q < (c.ps.length : Int)
  ·
   obtain ⟨n, rfl⟩ : ∃ n : Nat, q = n := ⟨q.toNat, by omega⟩
   have hnl : n < c.ps.length := by omega
   obtain ⟨e, e1, e2⟩ := h3 n c.ps[n] (List.getElem?_eq_getElem hnl)
   have hh := h1.has n (by omega)
   rw [List.getElem?_eq_getElem (by omega : n < pp.es.length), Option.some.injEq] at e1
   have : tapX c (n : Int) = !c.ps[n].link := by simp [tapX, hnl]
   rw [this] at ht
   have hl : c.ps[n].link = true := by simpa using ht
   rw [e1, e2, hl] at hh
   exact nInject_no _ _ _ _ true true (.inr rfl) hh
  ·
   exact nInject_no _ _ _ _ false false (.inl rfl) (h1.hasNo q (by omega))
 have HI := h_ hI
 clear hI hr hn hu ht
 go_enter Tryz.func8, Tryz.ntmps8
 go_wp2_with fail
 (with_reducible refine HR.out.mono ?_)
 rintro e w' ⟨rfl, rfl⟩
 go_wp2_with fail
 (with_reducible refine HI.out.mono ?_)
 rintro e w3 ⟨rfl, b3⟩
 go_wp2_with fail
 go_ret
 exact ⟨rfl, b3⟩
end
section
variable {w1 : World} {B : Nat} {w : World} {F : Nat} {x : FabX} {r k p d room : Int} {seed : List UInt8} {cs : List ConfX} {nw : Nat} {seen : List (Int × Int)} {ns : List Nat}
theorem fInject_ok (h : FabT w1 B w F x r k p d room seed cs nw seen ns) (i N : Nat) (c : ConfX) (hi : ns[i]? = some N) (hc : cs[i]? = some c) (q : Nat) (hq : q < c.ps.length) (htap : c.ps[q].link = false) (l : List UInt8) (hl : l.length ≤ 10000) (t : TalkD) (ht : ∀ d, ethParse l = .ok d → TalkC d.dst d.src d.ty d.body t) :
  Calls Tryz.prog 8 #[.pointer (some ⟨F, 0, none⟩), .int .i64 (i : Int), .int .i64 (q : Int), .string ⟨l.toArray⟩] w fun e w' => (∃ told given es, e = .returned (.int .i64 0) ∧ FabU w1 B w' F x r k p d room seed cs nw (ns.map some) told given ∧ UpN w' N c ∧ LinksN es c.ps ∧ OwnL w' w.heap.size 61 3 told ((tapsN es (comeS (brX c) q l t).2.1).map (evN i))) ∧ Below w1.heap.size w w' := by
 obtain ⟨wa, wb, gB, ⟨hroom, Q, mac, A, sp, ea, ec, es, pa, cap, hT⟩, hzb, hag⟩ := h.nodes i N c hi hc
 have hm := muts_lt hT
 obtain ⟨wx, ex, hTw⟩ := hT.agree w hzb fun X hX hX2 => (hag X hX hX2).1
 obtain ⟨pp, hF1, hpQ⟩ := hTw.nodeF hroom c rfl rfl
 have hU0 := h.u
 have hil : i < (ns.map some).length := by rw [List.length_map]; exact (List.getElem?_eq_some_iff.1 hi).1
 have hni : (ns.map some)[i] = some N := by
  have := (List.getElem?_eq_some_iff.1 hi).2
  rw [List.getElem_map, this]
 have hr := fRuns_in hU0 i hil
 rw [hni, Option.map_some] at hr
 have HR := h_ hr
 have hqe : q < pp.es.length := by rw [hF1.es]; exact hq
 have htp : pp.es[q] = none := by
  obtain ⟨e, e1, e2⟩ := hF1.link q c.ps[q] (List.getElem?_eq_getElem hq)
  rw [List.getElem?_eq_getElem hqe, Option.some.injEq] at e1
  rw [e1]
  rw [htap] at e2
  cases e with
  | none => rfl
  | some _ => cases e2
 have hH := hF1.q.has q hqe
 rw [htp] at hH
 have hI := nInject_ok hF1.q.nd room hroom hF1.rQ (q : Int) l hH
 rw [hpQ] at hI
 have HI := h_ hI
 have hBF := hU0.ltF
 have hgF := hU0.gF
 have hlF := hU0.lF
 have hSB : ∀ b ∈ Q :: A.muts, B ≤ b := fun b hb => Nat.le_trans gB (hm b hb).1
 have hSw : ∀ b ∈ Q :: A.muts, b < w.heap.size := fun b hb => Nat.lt_of_lt_of_le (hm b hb).2 hzb
 have hSo : ∀ b ∈ Q :: A.muts, (Value.slice x.na (ns.map some).length x.nc).ownBlock ≠ some b := fun b hb => by
  rw [List.length_map]
  exact (hag b (hm b hb).1 (hm b hb).2).2
 have hFS : F ∉ Q :: A.muts := fun hm2 => by have := hSB F hm2; omega
 have hMS : x.M ∉ Q :: A.muts := fun hm2 => by have := hSB x.M hm2; have := h.ltM; omega
 have hrF := hU0.rF
 unfold FabX.row at hrF
 have HH := h_ h
 have HU0 := h_ hU0
 clear hr hI hH htp hqe hF1 hpQ hTw hni hU0 h
 go_enter Tryz.func8, Tryz.ntmps8
 go_wp2_with fail
 (with_reducible refine HR.out.mono ?_)
 rintro e wz ⟨rfl, rfl⟩
 go_wp2_with fail
 (with_reducible refine HI.out.mono ?_)
 rintro e w3 ⟨g, gcap, rfl, rQ3, ⟨rest, hg3⟩, ⟨hcap, gg⟩, zg3, b3⟩
 have z3 := b3.size
 have hQS : Q ∈ Q :: A.muts := List.mem_cons_self
 have nFQ : F ≠ Q := fun e => hFS (e ▸ hQS)
 have rF3 := (b3.row hlF nFQ).trans hrF
 have HG3 := h_ hg3
 have HU3 := h_ (HU0.out.kept (BelowS.one b3 hQS) hSB hSo)
 clear hg3
 go_wp2_with (at_builtin; (refine wpList_appendB rfl rfl Tryz.underlying37 evInfo (by decide) (by decide) w3.heap.size _ [] rfl (OwnL.nil _ _ _ _) [Value.int .i64 (i : Int), .int .i64 (q : Int), .string ⟨l.toArray⟩] rfl rfl rfl (by decide) (Nat.le_refl _) ?_))
 intro v5 w5 own5 b5 hk5
 obtain ⟨ga, gcc, hv5, _⟩ := own5.elems
 simp only [List.nil_append, List.length_singleton] at hv5
 subst hv5
 have z5 := b5.size
 have rF5 := (row_below b5 (show F < w3.heap.size by omega)).trans rF3
 obtain ⟨w6, hw6⟩ : ∃ y, w5.setRow F #[Value.slice x.ca cs.length x.cc, .slice x.wa nw x.wc, .int .i64 r, .int .i64 k, .int .i64 p, .int .i64 d, .int .i64 room, .string ⟨seed.toArray⟩, .slice x.na cs.length x.nc, .map (some x.M), .slice none 0 0, .slice none 0 0, .slice ga 1 gcc, x.dv] = y := ⟨_, rfl⟩
 have rF6 : row w6 F = #[Value.slice x.ca cs.length x.cc, .slice x.wa nw x.wc, .int .i64 r, .int .i64 k, .int .i64 p, .int .i64 d, .int .i64 room, .string ⟨seed.toArray⟩, .slice x.na cs.length x.nc, .map (some x.M), .slice none 0 0, .slice none 0 0, .slice ga 1 gcc, x.dv] := by rw [← hw6]; exact row_setRow_same (by rw [rF5]; simp) (by rw [rF5]; simp)
 have z6 : w6.heap.size = w5.heap.size := by rw [← hw6, setRow_size]
 have k6 : ∀ X, X ≠ F → w6.heap[X]? = w5.heap[X]? := fun X hX => by rw [← hw6]; exact setRow_block_other _ _ _ hX
 have hU6 := (HU3.out.below b5).setF (w' := w6) (.slice none 0 0) (.slice ga 1 gcc) (by rw [← hw6]; exact BelowBut.set _ _) (by unfold FabX.row; exact rF6)
 have rQ6 : row w6 Q = waitC room (Lib.hasPrefix l bpduTo.toList) g gcap := by rw [row_of_block (k6 Q (Ne.symm nFQ)), row_below b5 (by have := hSw Q hQS; omega)]; exact rQ3
 have rg6 : row w6 g = (Value.int .i64 (q : Int) :: Value.string ⟨l.toArray⟩ :: rest).toArray := by rw [row_of_block (k6 g (by omega)), row_below b5 zg3]; exact HG3.out
 obtain ⟨pp2, hF2, hpQ2⟩ := hT.back hroom [Q] (fun b hb => by rw [List.mem_singleton.1 hb]; exact hQS) w6 (by omega) fun X hX hX2 hX3 => by
  have hX3' : X ≠ Q := by simpa using hX3
  rw [k6 X (by omega), b5.block X (by omega), b3.block X (by omega) hX3']
  exact (hag X hX hX2).1
 have hQ2 : Quiet (Q :: A.muts) w6 N pp2 := (hpQ2 ▸ hF2.q).kept ⟨rfl, rfl, rfl, by rw [backW_size]; exact Nat.le_refl _, fun X _ hn => (backW_off w6 wb (S := [Q]) fun h2 => hn (by rw [List.mem_singleton.1 h2]; exact hQS)).symm⟩
 have hB2 : BrT w6 A (brX c) := hF2.br.otherB (x := Q) (by have := hF2.ex; rwa [hpQ2] at this) (by have := hF2.nQ; rwa [hpQ2] at this) ⟨rfl, rfl, rfl, by rw [backW_size]; exact Nat.le_refl _, fun X _ hn => (backW_off w6 wb (S := [Q]) (by simpa using hn)).symm⟩
 have hqe2 : q < pp2.es.length := by rw [hF2.es]; exact hq
 have htp2 : pp2.es[q] = none := by
  obtain ⟨e, e1, e2⟩ := hF2.link q c.ps[q] (List.getElem?_eq_getElem hq)
  rw [List.getElem?_eq_getElem hqe2, Option.some.injEq] at e1
  rw [e1]
  rw [htap] at e2
  cases e with
  | none => rfl
  | some _ => cases e2
 have hrun := nRun_one (hpQ2.symm ▸ hQ2) hF2.pB hF2.ex hF2.nQ hB2 (K := 0) (by omega) hF2.g hF2.len hqe2 htp2 l (by omega) t ht room _ g gcap hcap (by rw [hpQ2]; exact rQ6) rest rg6 (by rw [hpQ2]; intro e2; have := hSw Q hQS; omega)
 rw [hpQ2] at hrun
 obtain ⟨outs, houts⟩ : ∃ o, tapsN pp2.es (comeS (brX c) q l t).2.1 = o := ⟨_, rfl⟩
 have hol : outs.length ≤ 1000 := by
  rw [← houts]
  have h32 := hF2.g.n32
  have h1 := (comeS_outs (brX c) (k := q) (by rw [hF2.len]; exact hqe2) l t).2
  have h2 : (tapsN pp2.es (comeS (brX c) q l t).2.1).length ≤ (comeS (brX c) q l t).2.1.length := List.length_filter_le _ _
  omega
 rw [houts] at hrun
 have hlk : LinksN pp2.es c.ps := ⟨hF2.es, hF2.link⟩
 have HRUN := h_ hrun
 have HLK := h_ hlk
 have HOUT := h_ houts
 have HOL := h_ hol
 have HU6 := h_ hU6
 have hlow := HH.out.u.low.size
 have hQ1 : w1.heap.size ≤ Q := by have := hSB Q hQS; omega
 have HS6 := h_ ((((HH.out.seen.kept (BelowS.one b3 hQS) hMS).below b5).kept (S := [F]) (w' := w6) (by rw [← hw6]; exact BelowS.set _ _ (by simp)) (by simpa using HH.out.nMF)))
 have hb16 : Below w1.heap.size wz w6 := by
  refine ((b3.mono hlow).below hQ1).trans ((b5.mono (by omega)).trans ?_)
  rw [← hw6]
  exact Below.setRow (Below.refl _ _) hgF _
 have HK6 := h_ k6
 have HB3 := h_ b3
 have HB5 := h_ b5
 have lF6 : F < w6.heap.size := by omega
 clear hrun hlk houts hol htp2 hqe2 hB2 hQ2 hF2 hpQ2 rg6 rQ6 hU6 k6 b3 b5 own5 hk5 rQ3 rF3 hrF
 go_wp2_with fail
 (try rw [hw6])
 clear hw6 rF5
 (with_reducible refine HRUN.out.mono ?_)
 rintro e w7 ⟨⟨v, rfl, ho⟩, bS, _, _⟩
 have z7 := bS.size
 have rF7 := (bS.row lF6 hFS).trans rF6
 obtain ⟨la, lc, hv, hoff⟩ := ho.off [F] (fun s hs => by rw [List.mem_singleton.1 hs]; left; exact lF6)
 rw [List.length_map] at hv
 subst hv
 have hU7 := HU6.out.kept bS hSB hSo
 have HU7 := h_ hU7
 have hs7 : SeenT w7 x.M seen := HS6.out.kept bS hMS
 have HFO := h_ (fOut_any (x := x) (r := r) (k := k) (p := p) (d := d) (room := room) (seed := seed) (n := cs.length) (nw := nw) (.slice ga 1 gcc) (by unfold FabX.row; exact rF7) hs7 HH.out.nMF i la lc outs hoff HOL.out)
 have HBS := h_ bS
 clear hU7 hs7 hoff ho bS rF6
 go_wp2_with fail
 (with_reducible refine HFO.out.mono ?_)
 rintro e w8 ⟨rfl, ⟨told, rF8, ho8⟩, b8⟩
 have hU8 := HU7.out.setF told (.slice ga 1 gcc) b8 rF8
 have z8 := b8.size
 have hup : UpN w8 N c := by
  obtain ⟨pp3, hF3, hpQ3⟩ := hT.back hroom (Q :: A.muts) (fun b hb => hb) w8 (by omega) fun X hX hX2 hX3 => by
   have hX4 : X ≠ Q := fun e => hX3 (e ▸ hQS)
   rw [b8.block X (by omega) (by omega), HBS.out.block X (by omega) hX3, HK6.out X (by omega), HB5.out.block X (by omega), HB3.out.block X (by omega) hX4]
   exact (hag X hX hX2).1
  have hq3 := hF3.q
  rw [hpQ3] at hq3
  exact ⟨Q :: A.muts, pp3, hq3.kept (backW_below _ _ _ _), hF3.es, hF3.link⟩
 have hb18 : Below w1.heap.size wz w8 := hb16.trans (((HBS.out.mono (by omega)).below (B' := w1.heap.size) (Nat.le_refl _) fun s hs => by have := hSB s hs; omega).trans ((b8.mono (by omega)).below hgF))
 have ho9 := ho8.lowr (B' := wz.heap.size) (by omega)
 rw [← HOUT.out] at ho9
 have HO9 := h_ ho9
 have HUP := h_ hup
 have HU8 := h_ hU8
 clear ho9 hup hU8 ho8 b8 rF8 rF7
 go_wp2_with fail
 go_ret
 exact ⟨⟨told, _, pp2.es, rfl, HU8.out, HUP.out, HLK.out, HO9.out⟩, hb18⟩
end
end
section
open Go.RowKit Go.Shelf
def fewX (c : ConfX) : Bool := decide (c.ps.length ≤ 5) && fewC c.ps
def fewP (cs : List ConfX) (nw : Nat) (seed : List UInt8) : Bool := decide (cs.length ≤ 4) && decide (nw ≤ 5) && decide (seed.length ≤ 100) && cs.all fewX
theorem few26_any (ca : Option Addr) (cc : Nat) (cs : List ConfX) (wa : Option Addr) (nw wc : Nat) (r k p d room : Int) (seed : List UInt8) (w : World) (h : ConfsAt w ca cs) :
  Calls Tryz.prog 5 #[.agg (planV ca cs.length cc wa nw wc r k p d room seed).toArray, .slice none 0 0] w fun e w' => e = .returned (.bool (fewP cs nw seed)) ∧ Below w.heap.size w w' := by
 obtain ⟨fv, hfv⟩ : ∃ b, fewP cs nw seed = b := ⟨_, rfl⟩
 rw [hfv]
 have HFV := h_ hfv
 clear hfv
 have hll := h.len
 have hllI : (cs.length : Int) ≤ 9223372036854775807 := by unfold maxLen at hll; omega
 clear hll
 unfold planV
 go_enter Tryz.func5, Tryz.ntmps5
 obtain ⟨w1, hw1⟩ : ∃ x, w.alloc (.cells #[Value.slice ca cs.length cc, .slice wa nw wc, .int .i64 r, .int .i64 k, .int .i64 p, .int .i64 d, .int .i64 room, .string ⟨seed.toArray⟩] 26) = x := ⟨_, rfl⟩
 have b1 : Below w.heap.size w w1 := by rw [← hw1]; exact ba_
 have z1 : w1.heap.size = w.heap.size + 1 := by rw [← hw1, alloc_sizeW]
 have rC1 : row w1 w.heap.size = #[Value.slice ca cs.length cc, .slice wa nw wc, .int .i64 r, .int .i64 k, .int .i64 p, .int .i64 d, .int .i64 room, .string ⟨seed.toArray⟩] := by rw [← hw1]; exact row_alloc_at _ _ _ rfl
 by_cases h1 : cs.length ≤ 4
 ·
  have d1 : decide ((4 : Int) < (cs.length : Int)) = false := decide_eq_false (by omega)
  by_cases h2 : nw ≤ 5
  ·
   have d2 : decide ((5 : Int) < (nw : Int)) = false := decide_eq_false (by omega)
   by_cases h3 : seed.length ≤ 100
   ·
    have d3 : decide ((100 : Int) < (seed.length : Int)) = false := decide_eq_false (by omega)
    have hfe : fewP cs nw seed = cs.all fewX := by unfold fewP; rw [decide_eq_true h1, decide_eq_true h2, decide_eq_true h3]; simp
    have HFE := h_ hfe
    have lC1 : w.heap.size < w1.heap.size := by omega
    clear hfe z1
    go_wp2_with fail
    (try rw [hw1])
    clear hw1
    go_loopw [5] (fun u wr => ∃ j : Nat, j ≤ cs.length ∧ u = .int .i64 j ∧ (cs.take j).all fewX = true ∧ Below w1.heap.size w1 wr) (fun u _ => cs.length - (intOf u).toNat)
    case atStart => exact ⟨0, by omega, rfl, rfl, Below.refl _ _⟩
    case round =>
     obtain ⟨j, hj, rfl, hall, cb⟩ := hrel
     have zb := cb.size
     have rC := (row_below cb lC1).trans rC1
     have cbw : Below w.heap.size w wr := b1.trans (cb.mono (by omega))
     have HA := h_ hall
     clear hall
     by_cases hlt : j < cs.length
     ·
      have hltI : (j : Int) < (cs.length : Int) := by omega
      obtain ⟨b, off, pa, cap, rfl, hb, hr⟩ := h.get hlt
      obtain ⟨hra, hpx⟩ := hr wr cbw
      obtain ⟨c, hc⟩ : ∃ c, cs[j] = c := ⟨_, rfl⟩
      rw [hc] at hra hpx
      obtain ⟨o, ho⟩ : ∃ o, off + j * 13 = o := ⟨_, rfl⟩
      rw [ho] at hra
      have hld : (loadS 54 (.pointer (some ⟨b, o, none⟩))).run Tryz.prog wr = .ok (.agg (confXV pa cap c).toArray) wr := run_loadS_at hra (by simp [confXV, confV])
      have hcl : wr.cell? ⟨b, o + 12, none⟩ = some (.slice pa c.ps.length cap) := hra 12 _ (by simp [confXV, confV])
      unfold confXV confV at hld
      have htk : (cs.take (j + 1)).all fewX = fewX c := by rw [List.take_add_one, List.getElem?_eq_getElem hlt, List.all_append, HA.out, hc]; simp
      have HTK := h_ htk
      have HFC := h_ (fewC_any c.id c.ma c.he c.de c.ageing pa cap c.ps wr hpx)
      have HPX := h_ hpx
      have hmem : c ∈ cs := hc ▸ List.getElem_mem hlt
      have HM := h_ hmem
      clear hra hc htk hpx hmem hr
      by_cases h5 : c.ps.length ≤ 5
      ·
       have d5 : decide ((5 : Int) < (c.ps.length : Int)) = false := decide_eq_false (by omega)
       have hfc := HFC.out
       unfold confV at hfc
       have HFC2 := h_ hfc
       clear hfc
       go_wp2_with fail
       (with_reducible refine HFC2.out.mono ?_)
       rintro e w3 ⟨rfl, b3⟩
       have B3 := cbw.trans (b3.mono cbw.size)
       have c3 := cb.trans (b3.mono zb)
       cases hfew : fewC c.ps with
       | true =>
        have hx : fewX c = true := by unfold fewX; rw [decide_eq_true h5, hfew]; rfl
        have HX := h_ hx
        have HFW := h_ hfew
        clear hx hfew
        simp only [if_true]
        go_wp2_with fail
        go_roundw
        case rel => exact ⟨j + 1, by omega, by simp, by rw [HTK.out, HX.out], c3⟩
        case measure => simp [intOf]; omega
       | false =>
        have hx : fewX c = false := by unfold fewX; rw [hfew]; simp
        have hF : fv = false := by rw [← HFV.out, HFE.out]; exact List.all_eq_false.2 ⟨c, HM.out, by rw [hx]; simp⟩
        have HFF := h_ hF
        clear hx hfew hF
        simp only [Bool.false_eq_true, if_false]
        go_wp2_with fail
        go_ret
        exact ⟨by rw [HFF.out]; rfl, B3⟩
      ·
       have d5 : decide ((5 : Int) < (c.ps.length : Int)) = true := decide_eq_true (by omega)
       have hx : fewX c = false := by unfold fewX; rw [decide_eq_false h5]; rfl
       have hF : fv = false := by rw [← HFV.out, HFE.out]; exact List.all_eq_false.2 ⟨c, HM.out, by rw [hx]; simp⟩
       have HFF := h_ hF
       clear hx hF
       go_wp2_with fail
       go_ret
       exact ⟨by rw [HFF.out]; rfl, cbw⟩
     ·
      obtain rfl : j = cs.length := by omega
      have hltI : ¬ (cs.length : Int) < (cs.length : Int) := by omega
      rw [List.take_length] at HA
      have hF : fv = true := by rw [← HFV.out, HFE.out]; exact HA.out
      have HFF := h_ hF
      clear hF
      go_wp2_with fail
      refine wp_loop_rounds 1 ?_
      rw [rounds_succ]
      go_wp2_with fail
      go_ret
      exact ⟨by rw [HFF.out]; rfl, cbw⟩
   ·
    have d3 : decide ((100 : Int) < (seed.length : Int)) = true := decide_eq_true (by omega)
    have hF : fv = false := by rw [← HFV.out]; unfold fewP; rw [decide_eq_false h3]; simp
    have HFF := h_ hF
    clear hF
    go_wp2_with fail
    go_ret
    exact ⟨by rw [HFF.out]; rfl, b1⟩
  ·
   have d2 : decide ((5 : Int) < (nw : Int)) = true := decide_eq_true (by omega)
   have hF : fv = false := by rw [← HFV.out]; unfold fewP; rw [decide_eq_false h2]; simp
   have HFF := h_ hF
   clear hF
   go_wp2_with fail
   go_ret
   exact ⟨by rw [HFF.out]; rfl, b1⟩
 ·
  have d1 : decide ((4 : Int) < (cs.length : Int)) = true := decide_eq_true (by omega)
  have hF : fv = false := by rw [← HFV.out]; unfold fewP; rw [decide_eq_false h1]; simp
  have HFF := h_ hF
  clear hF
  go_wp2_with fail
  go_ret
  exact ⟨by rw [HFF.out]; rfl, b1⟩
end
section
open Go.RowKit Go.Shelf
def xFb : PortX := ⟨⟨3, [], 0, 5⟩, false, 0, false, Vector.replicate 32 0⟩
def cFb : ConfX := ⟨Vector.replicate 8 0, 20, 2, 15, 9, [xFb, xFb]⟩
theorem comeF : (comeS (brX cFb) 0 lineN ⟨[], mac0, false, none⟩).2 = ([(1, lineN)], 0) := by
 unfold comeS
 rw [lineN_parse]
 rfl
theorem rightF_ex : rightF 1 9 2 5 10 [cFb] [] = true := by decide
theorem pxF {W : World} {g : Nat} (h : row W g = (portXV none 0 xFb ++ portXV none 0 xFb).toArray) : PXOff [] W (some ⟨g, 0, none⟩) [xFb, xFb] := by
 have hg : g < W.heap.size := lt_of_row (i := 0) (by rw [h]; simp [portXV])
 refine ⟨by simp [maxLen], fun i p hp => ?_⟩
 have hi : i < 2 := (List.getElem?_eq_some_iff.1 hp).1
 have hpA : p = xFb := by
  match i, hp with
  | 0, hp => exact (Option.some.inj hp).symm
  | 1, hp => exact (Option.some.inj hp).symm
  | n + 2, hp => simp at hp
 subst hpA
 refine ⟨g, 0, none, 0, rfl, hg, List.not_mem_nil, fun W' hW => ?_, ElemsOff.nil _ _ _ _⟩
 have hr := (row_of_block hW).trans h
 match i, hi with
 | 0, _ => exact range_of_row (pre := []) (post := portXV none 0 xFb) hr
 | 1, _ => exact range_of_row (pre := portXV none 0 xFb) (post := []) (by rw [List.append_nil]; exact hr)
theorem confsF {W : World} {g b : Nat} (h : row W g = (portXV none 0 xFb ++ portXV none 0 xFb).toArray) (h2 : row W b = (confXV (some ⟨g, 0, none⟩) 2 cFb).toArray) : ConfsAt W (some ⟨b, 0, none⟩) [cFb] := by
 have hb : b < W.heap.size := lt_of_row (i := 0) (by rw [h2]; simp [confXV, confV])
 refine ⟨[confXV (some ⟨g, 0, none⟩) 2 cFb], rfl, ⟨by simp [maxLen], fun i x hx => ?_⟩, fun i c hc => ?_⟩
 ·
  have hi : i = 0 := by have := (List.getElem?_eq_some_iff.1 hx).1; simpa using this
  subst hi
  obtain rfl := Option.some.inj hx
  exact ⟨b, 0, rfl, hb, fun W' hW => range_of_row (pre := []) (post := []) (by rw [List.append_nil]; exact (row_of_block hW).trans h2)⟩
 ·
  have hi : i = 0 := by have := (List.getElem?_eq_some_iff.1 hc).1; simpa using this
  subst hi
  obtain rfl := Option.some.inj hc
  exact ⟨_, _, rfl, pxF h⟩
theorem eql_nil_event (w : World) (a : Option Addr) (n c : Nat) : (binOp .eql 37 (.slice a n c) (.slice none 0 0)).run Tryz.prog w = .ok (.bool a.isNone) w := by
 have ht := Tryz.underlying37
 have h : ∀ d : Nat, (Op.equalIn (d + 1) 37 (.slice a n c) (.slice none 0 0)).run Tryz.prog w = .ok a.isNone w := fun d => by
  cases a <;> simp [Op.equalIn, run_underlying ht]
 simp only [binOp]
 simp [Op.equal, Op.maxDepth, h 9999]
theorem clone_event (a : Option Addr) (cap : Nat) (l : List (List Value)) (w : World) (h : ElemsAt w a 3 l) (hl : ∀ x ∈ l, x.length = 3 ∧ ones x = true) (hs : l.length ≤ 1000) :
  Calls Tryz.prog 33 #[.slice a l.length cap] w fun e w' => (∃ v, e = .returned v ∧ OwnL w' w.heap.size 61 3 v l) ∧ Below w.heap.size w w' := by
 have hlI : (l.length : Int) ≤ 1000 := by omega
 cases a with
 | none =>
  have hl0 : l = [] := by
   cases l with
   | nil => rfl
   | cons x l =>
    obtain ⟨b, off, e, _⟩ := h.2 0 x rfl
    cases e
  subst hl0
  have hq := eql_nil_event w none 0 cap
  go_enter Tryz.func33, Tryz.ntmps33
  go_wp2_with fail
  go_ret
  exact ⟨⟨_, rfl, OwnL.nil _ _ _ _⟩, Below.refl _ _⟩
 | some ad =>
  have hq := eql_nil_event w (some ad) l.length cap
  obtain ⟨X, hX⟩ : ∃ y, w.alloc (.cells #[] 61) = y := ⟨_, rfl⟩
  have bX : Below w.heap.size w X := by rw [← hX]; exact ba_
  have oX : OwnL X w.heap.size 61 3 (.slice (some ⟨w.heap.size, 0, none⟩) 0 0) [] := by rw [← hX]; exact ⟨by simp, by simp, .inr ⟨w.heap.size, 0, #[], rfl, Nat.le_refl _, heap_alloc_new w _, Nat.le_refl _, by unfold maxLen; omega, by simp, by simp⟩⟩
  have zX := bX.size
  have H := h_ (h.below bX)
  have HL := h_ hl
  have HS := h_ (show ([] : List (List Value)).length + l.length ≤ 10000 by simp; omega)
  clear h hl hs
  go_enter Tryz.func33, Tryz.ntmps33
  go_wp2_with (at_builtin; go_loud ((try rw [hX]); refine wpList_appendAt (bytes := 32) rfl rfl Tryz.underlying37 evInfo (by decide) (by decide) w.heap.size _ [] rfl oX ad cap l rfl (fun x hx => (HL.out x hx).1) H.out (fun x hx => (HL.out x hx).2) HS.out zX ?_))
  intro v1 w1 o1 b1
  have O1 := h_ o1
  have B1 := bX.trans (b1.mono (Nat.le_refl _))
  clear o1 b1 oX bX
  go_wp2_with fail
  go_ret
  exact ⟨⟨_, rfl, O1.out⟩, B1⟩
theorem fTold_any {w1 : World} {B : Nat} {w : World} {F : Nat} {x : FabX} {r k p d room : Int} {seed : List UInt8} {cs : List ConfX} {nw : Nat} {ns : List (Option Nat)} {given : Value} {ta : Option Addr} {tc : Nat} {l : List (List Value)} {B' : Nat} (h : FabU w1 B w F x r k p d room seed cs nw ns (.slice ta l.length tc) given) (ho : OwnL w B' 61 3 (.slice ta l.length tc) l) (h1 : ∀ x ∈ l, ones x = true) (hn : l.length ≤ 1000) :
  Calls Tryz.prog 15 #[.pointer (some ⟨F, 0, none⟩)] w fun e w' => (∃ v, e = .returned v ∧ OwnL w' w.heap.size 61 3 v l) ∧ Below w.heap.size w w' := by
 have hF := h.rF
 unfold FabX.row at hF
 obtain ⟨a', c', e', he⟩ := ho.elems
 simp only [Value.slice.injEq] at e'
 obtain ⟨rfl, _, rfl⟩ := e'
 have HC := h_ (clone_event ta tc l w he (fun x hx => ⟨ho.1 x hx, h1 x hx⟩) hn)
 clear he ho
 go_enter Tryz.func15, Tryz.ntmps15
 go_wp2_with fail
 (with_reducible refine HC.out.mono ?_)
 rintro e w3 ⟨⟨v, rfl, o3⟩, b3⟩
 have HO := h_ o3
 clear o3
 go_wp2_with fail
 go_ret
 exact ⟨⟨_, rfl, HO.out⟩, b3⟩
theorem awake26_any (w : World) : Calls Tryz.prog 4 #[] w fun e w' => e = .returned (.bool true) ∧ Below w.heap.size w w' := by
 go_enter Tryz.func4, Tryz.ntmps4
 have hz1 : (zeros 1 (Value.int .i64 0)).tail = [] := rfl
 have hz2 : List.take 1 (zeros 2 (Value.slice none 0 0) ++ (zeros 5 (Value.int .i64 0) ++ [Value.string ⟨#[]⟩])).tail = [Value.slice none 0 0] := rfl
 obtain ⟨w1, hw1⟩ : ∃ x, w.alloc (.cells (Value.int .i64 3 :: Value.slice none 0 0 :: (zeros 1 (Value.int .i64 0) ++ Value.int .i64 5 :: Value.bool false :: Value.int .i64 0 :: Value.bool false :: zeros 32 (Value.int .u8 0))).toArray 58) = x := ⟨_, rfl⟩
 have b1 : Below w.heap.size w w1 := by rw [← hw1]; exact ba_
 have r1 : row w1 w.heap.size = #[Value.int .i64 3, Value.slice none 0 0, Value.int .i64 0, Value.int .i64 5, Value.bool false, Value.int .i64 0, Value.bool false, Value.int .u8 0, Value.int .u8 0, Value.int .u8 0, Value.int .u8 0, Value.int .u8 0, Value.int .u8 0, Value.int .u8 0, Value.int .u8 0, Value.int .u8 0, Value.int .u8 0, Value.int .u8 0, Value.int .u8 0, Value.int .u8 0, Value.int .u8 0, Value.int .u8 0, Value.int .u8 0, Value.int .u8 0, Value.int .u8 0, Value.int .u8 0, Value.int .u8 0, Value.int .u8 0, Value.int .u8 0, Value.int .u8 0, Value.int .u8 0, Value.int .u8 0, Value.int .u8 0, Value.int .u8 0, Value.int .u8 0, Value.int .u8 0, Value.int .u8 0, Value.int .u8 0, Value.int .u8 0] := by rw [← hw1]; exact (row_alloc_at _ _ _ rfl).trans rfl
 have z1 : w1.heap.size = w.heap.size + 1 := by rw [← hw1, alloc_sizeW]
 obtain ⟨w2, hw2⟩ : ∃ x, w1.alloc (.cells #[Value.int .i64 3, Value.slice none 0 0, Value.int .i64 0, Value.int .i64 5, Value.bool false, Value.int .i64 0, Value.bool false, Value.int .u8 0, Value.int .u8 0, Value.int .u8 0, Value.int .u8 0, Value.int .u8 0, Value.int .u8 0, Value.int .u8 0, Value.int .u8 0, Value.int .u8 0, Value.int .u8 0, Value.int .u8 0, Value.int .u8 0, Value.int .u8 0, Value.int .u8 0, Value.int .u8 0, Value.int .u8 0, Value.int .u8 0, Value.int .u8 0, Value.int .u8 0, Value.int .u8 0, Value.int .u8 0, Value.int .u8 0, Value.int .u8 0, Value.int .u8 0, Value.int .u8 0, Value.int .u8 0, Value.int .u8 0, Value.int .u8 0, Value.int .u8 0, Value.int .u8 0, Value.int .u8 0, Value.int .u8 0, Value.int .i64 3, Value.slice none 0 0, Value.int .i64 0, Value.int .i64 5, Value.bool false, Value.int .i64 0, Value.bool false, Value.int .u8 0, Value.int .u8 0, Value.int .u8 0, Value.int .u8 0, Value.int .u8 0, Value.int .u8 0, Value.int .u8 0, Value.int .u8 0, Value.int .u8 0, Value.int .u8 0, Value.int .u8 0, Value.int .u8 0, Value.int .u8 0, Value.int .u8 0, Value.int .u8 0, Value.int .u8 0, Value.int .u8 0, Value.int .u8 0, Value.int .u8 0, Value.int .u8 0, Value.int .u8 0, Value.int .u8 0, Value.int .u8 0, Value.int .u8 0, Value.int .u8 0, Value.int .u8 0, Value.int .u8 0, Value.int .u8 0, Value.int .u8 0, Value.int .u8 0, Value.int .u8 0, Value.int .u8 0] 58) = x := ⟨_, rfl⟩
 have b2 : Below w1.heap.size w1 w2 := by rw [← hw2]; exact ba_
 have r2 : row w2 w1.heap.size = (portXV none 0 xFb ++ portXV none 0 xFb).toArray := by rw [← hw2]; exact (row_alloc_at _ _ _ rfl).trans rfl
 have z2 : w2.heap.size = w1.heap.size + 1 := by rw [← hw2, alloc_sizeW]
 have hf : List.foldl (fun (cs : Array Value) (x : Value × Nat) => cs.setIfInBounds x.2 x.1) #[Value.int .u8 0, Value.int .u8 0, Value.int .u8 0, Value.int .u8 0, Value.int .u8 0, Value.int .u8 0, Value.int .u8 0, Value.int .u8 0, Value.int .i64 0, Value.int .i64 0, Value.int .i64 0, Value.int .i64 0, Value.slice none 0 0] (zeros 8 (Value.int .u8 0) ++ [Value.int .i64 20, Value.int .i64 2, Value.int .i64 15, Value.int .i64 9, Value.slice (some ⟨w1.heap.size, 0, none⟩) 2 2]).zipIdx = (zeros 8 (Value.int .u8 0) ++ [Value.int .i64 20, Value.int .i64 2, Value.int .i64 15, Value.int .i64 9, Value.slice (some ⟨w1.heap.size, 0, none⟩) 2 2]).toArray := fold_at _ [] [Value.int .u8 0, Value.int .u8 0, Value.int .u8 0, Value.int .u8 0, Value.int .u8 0, Value.int .u8 0, Value.int .u8 0, Value.int .u8 0, Value.int .i64 0, Value.int .i64 0, Value.int .i64 0, Value.int .i64 0, Value.slice none 0 0] (by simp)
 obtain ⟨w3, hw3⟩ : ∃ x, w2.alloc (.cells (zeros 8 (Value.int .u8 0) ++ [Value.int .i64 20, Value.int .i64 2, Value.int .i64 15, Value.int .i64 9, Value.slice (some ⟨w1.heap.size, 0, none⟩) 2 2]).toArray 54) = x := ⟨_, rfl⟩
 have b3 : Below w2.heap.size w2 w3 := by rw [← hw3]; exact ba_
 have r3 : row w3 w2.heap.size = (confXV (some ⟨w1.heap.size, 0, none⟩) 2 cFb).toArray := by rw [← hw3]; exact (row_alloc_at _ _ _ rfl).trans rfl
 have z3 : w3.heap.size = w2.heap.size + 1 := by rw [← hw3, alloc_sizeW]
 rw [z1] at z2 hf
 go_wp2_with fail
 obtain ⟨w4, hw4⟩ : ∃ x, (w2.alloc (.cells (zeros 8 (Value.int .u8 0) ++ [Value.int .i64 20, Value.int .i64 2, Value.int .i64 15, Value.int .i64 9, Value.slice (some ⟨w.heap.size + 1, 0, none⟩) 2 2]).toArray 54)).alloc (.cells #[.slice (some ⟨w.heap.size + 1 + 1, 0, none⟩) 1 1, .slice none 0 0, .int .i64 1, .int .i64 9, .int .i64 2, .int .i64 5, .int .i64 10, .string ⟨#[]⟩] 26) = x := ⟨_, rfl⟩
 have b4 : Below w2.heap.size w2 w4 := by rw [← hw4]; exact Below.alloc (ba_) (by simp) _
 have rg4 : row w4 (w.heap.size + 1) = (portXV none 0 xFb ++ portXV none 0 xFb).toArray := by rw [← z1, row_below b4 (by omega)]; exact r2
 have rb4 : row w4 (w.heap.size + 1 + 1) = (confXV (some ⟨w.heap.size + 1, 0, none⟩) 2 cFb).toArray := by
  rw [← hw4, ← z2, row_alloc_past _ _ (by simp), row_alloc_at _ _ _ rfl]
  rfl
 have rP4 : row w4 (w.heap.size + 1 + 1 + 1) = #[.slice (some ⟨w.heap.size + 1 + 1, 0, none⟩) 1 1, .slice none 0 0, .int .i64 1, .int .i64 9, .int .i64 2, .int .i64 5, .int .i64 10, .string ⟨#[]⟩] := by
  rw [← hw4, show w.heap.size + 1 + 1 + 1 = (w2.alloc (.cells (zeros 8 (Value.int .u8 0) ++ [Value.int .i64 20, Value.int .i64 2, Value.int .i64 15, Value.int .i64 9, Value.slice (some ⟨w.heap.size + 1, 0, none⟩) 2 2]).toArray 54)).heap.size by rw [alloc_sizeW, z2], row_alloc_at _ _ _ rfl]
 have hC4 := confsF rg4 rb4
 have B4 : Below w.heap.size w w4 := b1.trans ((b2.trans (b4.mono (by omega))).mono (by omega))
 rw [hw4]
 clear hw4 hw3 hw2 hw1 hf b3 r3 z3 b4 rg4 rb4 r1 r2 hz1 hz2
 have hof : Calls Tryz.prog 20 #[.agg #[Value.slice (some ⟨w.heap.size + 1 + 1, 0, none⟩) 1 1, Value.slice none 0 0, Value.int .i64 1, Value.int .i64 9, Value.int .i64 2, Value.int .i64 5, Value.int .i64 10, Value.string ⟨#[]⟩]] w4 _ := ofP_any (some ⟨w.heap.size + 1 + 1, 0, none⟩) 1 [cFb] none 0 [] 1 9 2 5 10 [] w4 hC4 (ElemsAt.nil _ _ _) (by decide) (by decide) (by decide)
 (with_reducible refine hof.mono ?_)
 rintro e w5 ⟨⟨ca, wa, ⟨cc, wc, rfl⟩, hC5, hW5⟩, b5⟩
 have B5 := B4.trans (b5.mono B4.size)
 have hnw : Calls Tryz.prog 19 #[.agg (planV ca 1 cc wa 0 wc 1 9 2 5 10 []).toArray] w5 _ := new_yes ca cc [cFb] wa wc [] 1 9 2 5 10 [] w5 hC5 (by decide) hW5 (by decide) rightF_ex
 have HNW := h_ hnw
 clear hof hnw hC4
 go_wp2_with fail
 (with_reducible refine HNW.out.mono ?_)
 rintro e w6 ⟨⟨F, rfl, wf, hwf, B, x, seen, ns, hT⟩, b6⟩
 have B6 := B5.trans (b6.mono B5.size)
 obtain ⟨N, rfl⟩ : ∃ N, ns = [N] := by
  have hl := hT.u.len
  rw [List.length_map] at hl
  match ns, hl with
  | [N], _ => exact ⟨N, rfl⟩
 have hj := fInject_ok hT 0 N cFb rfl rfl 0 (by decide) rfl lineN (by decide) ⟨[], mac0, false, none⟩ (fun d hd => by rw [lineN_parse] at hd; cases hd; exact talk_plain _ _ _)
 rw [lineN_eq'] at hj
 have hin : Calls Tryz.prog 8 #[.pointer (some ⟨F, 0, none⟩), .int .i64 0, .int .i64 0, .string ⟨#[2, 0, 0, 0, 0, 9, 2, 0, 0, 0, 0, 1, 8, 0, 120]⟩] w6 _ := hj
 have HIN := h_ hin
 have hlow := hT.u.low.size
 clear hin hj hT HNW
 go_wp2_with fail
 (with_reducible refine HIN.out.mono ?_)
 rintro e w7 ⟨⟨told, given, es, rfl, hU, hup, ⟨hel, hes⟩, ho⟩, b7⟩
 obtain rfl : es = [none, none] := by
  obtain ⟨e0, g0, g1⟩ := hes 0 xFb rfl
  obtain ⟨e1, g2, g3⟩ := hes 1 xFb rfl
  match es, hel with
  | [a, b], _ =>
   simp only [List.getElem?_cons_zero, List.getElem?_cons_succ, Option.some.injEq] at g0 g2
   subst g0 g2
   cases a with
   | none => cases b with
    | none => rfl
    | some _ => cases g3
   | some _ => cases g1
 have hcm : (comeS (brX cFb) 0 lineN ⟨[], mac0, false, none⟩).2.1 = [(1, lineN)] := by rw [comeF]
 rw [hcm] at ho
 have htp : (tapsN [none, none] [(1, lineN)]).map (evN 0) = [evN 0 (1, lineN)] := rfl
 rw [htp] at ho
 obtain ⟨ta, tc, rfl, _⟩ := ho.elems
 have HTO := h_ (fTold_any hU ho (by intro x hx; rw [List.mem_singleton.1 hx]; rfl) (by decide))
 have B7 := B6.trans (b7.mono (by have := B5.size; omega))
 clear ho hU hup hes hel hcm HIN
 go_wp2_with fail
 (with_reducible refine HTO.out.mono ?_)
 rintro e w8 ⟨⟨v, rfl, o8⟩, b8⟩
 obtain ⟨a8, c8, rfl, he8⟩ := o8.elems
 obtain ⟨g8, off8, rfl, hg8, hr8⟩ := he8.2 0 (evN 0 (1, lineN)) rfl
 have hc8 := hr8 w8 rfl 1 (.int .i64 1) rfl
 rw [Nat.zero_mul, Nat.add_zero] at hc8
 have B8 := B7.trans (b8.mono B7.size)
 clear o8 he8 hr8 HTO
 go_wp2_with fail
 go_ret
 exact ⟨rfl, B8⟩
end
section
open Go.RowKit Go.Shelf
section
variable {w1 : World} {B : Nat} {w : World} {F : Nat} {x : FabX} {r k p d room : Int} {seed : List UInt8} {cs : List ConfX} {nw : Nat} {ns : List (Option Nat)} {told given : Value} (h : FabU w1 B w F x r k p d room seed cs nw ns told given)
include h
theorem fStart_out (i : Int) (hi : i < 0 ∨ (ns.length : Int) ≤ i) : Calls Tryz.prog 13 #[.pointer (some ⟨F, 0, none⟩), .int .i64 i] w fun e w' => e = .returned (.int .i64 7) ∧ w' = w := by
 have hF := h.rF
 have hl := h.len
 unfold FabX.row at hF
 rw [hl] at hi
 go_enter Tryz.func13, Tryz.ntmps13
 by_cases h0 : i < 0
 ·
  have d0 : decide (i < 0) = true := decide_eq_true h0
  go_wp2_with fail
  go_ret
  exact ⟨rfl, rfl⟩
 ·
  have d0 : decide (i < 0) = false := decide_eq_false h0
  have h1 : (cs.length : Int) ≤ i := by omega
  have d1 : decide ((cs.length : Int) ≤ i) = true := decide_eq_true h1
  go_wp2_with fail
  go_ret
  exact ⟨rfl, rfl⟩
theorem fStart_runs (i : Nat) (hi : i < ns.length) (N : Nat) (hn : ns[i] = some N) : Calls Tryz.prog 13 #[.pointer (some ⟨F, 0, none⟩), .int .i64 (i : Int)] w fun e w' => e = .returned (.int .i64 7) ∧ w' = w := by
 have hF := h.rF
 have hl := h.len
 obtain ⟨g, hg, hz, _, hc⟩ := h.cell hi
 rw [hn, Option.map_some] at hc
 unfold FabX.row at hF
 rw [hg] at hF
 rw [hl] at hi
 have h0 : ¬ (i : Int) < 0 := by omega
 have d0 : decide ((i : Int) < 0) = false := decide_eq_false h0
 have h1 : (i : Int) < (cs.length : Int) := by omega
 have d1 : decide ((cs.length : Int) ≤ (i : Int)) = false := decide_eq_false (by omega)
 have hc2 : w.cell? ⟨g, 0 + i, none⟩ = some (.pointer (some ⟨N, 0, none⟩)) := by rw [Nat.zero_add]; exact hc
 clear hn hg
 go_enter Tryz.func13, Tryz.ntmps13
 go_wp2_with fail
 go_ret
 exact ⟨rfl, rfl⟩
theorem fStart_ok (i : Nat) (hi : i < ns.length) (hn : ns[i] = none) (hps : ∀ c ∈ cs, c.ps.length ≤ 1000) (hok : ∀ c ∈ cs, madeOk r k p d room c = true) : Calls Tryz.prog 13 #[.pointer (some ⟨F, 0, none⟩), .int .i64 (i : Int)] w fun e w' => e = .returned (.int .i64 0) ∧ Below B w w' := by
 have hF := h.rF
 have hl := h.len
 obtain ⟨g, hg, hz, hB, hc⟩ := h.cell hi
 rw [hn, Option.map_none] at hc
 have HN := h_ hn
 unfold FabX.row at hF
 rw [hg] at hF
 have hic : i < cs.length := by omega
 have h0 : ¬ (i : Int) < 0 := by omega
 have d0 : decide ((i : Int) < 0) = false := decide_eq_false h0
 have h1 : (i : Int) < (cs.length : Int) := by omega
 have d1 : decide ((cs.length : Int) ≤ (i : Int)) = false := decide_eq_false (by omega)
 have hc2 : w.cell? ⟨g, 0 + i, none⟩ = some (.pointer none) := by rw [Nat.zero_add]; exact hc
 have hlF := h.lF
 have hldp : ∀ W, Below w.heap.size w W → (loadS 48 (.pointer (some ⟨F, 0, none⟩))).run Tryz.prog W = .ok (.agg #[Value.slice x.ca cs.length x.cc, .slice x.wa nw x.wc, .int .i64 r, .int .i64 k, .int .i64 p, .int .i64 d, .int .i64 room, .string ⟨seed.toArray⟩]) W := fun W hW => run_loadS_at (l := [Value.slice x.ca cs.length x.cc, .slice x.wa nw x.wc, .int .i64 r, .int .i64 k, .int .i64 p, .int .i64 d, .int .i64 room, .string ⟨seed.toArray⟩]) (range_row (pre := []) (post := [.slice (some ⟨g, 0, none⟩) cs.length x.nc, .map (some x.M), .slice none 0 0, told, given, x.dv]) ((row_below hW hlF).trans hF)) (by simp)
 have hcF : ∀ W, Below w.heap.size w W → W.cell? ⟨F, 8, none⟩ = some (.slice (some ⟨g, 0, none⟩) cs.length x.nc) := fun W hW => by
  have e := (row_below hW hlF).trans hF
  rw [cell_of_row' (by rw [e]; simp), e]; rfl
 have HG := h_ hg
 have HL := h_ hl
 clear hn hg hl
 go_enter Tryz.func13, Tryz.ntmps13
 go_wp2_with fail
 clear hc2 hc hF d0 d1
 have hGr : GrowP fun W => Below w.heap.size w W := grow_base w
 refine wp_region_beginKG 15 _ hGr rfl (Below.refl _ _) (fun hS => ?_)
 refine kf 0 hGr hS ?_
 refine kf 1 hGr hS ?_
 refine kf 2 hGr hS ?_
 refine kg 3 hGr hS ?_
 refine kf 4 hGr hS ?_
 refine kf 5 hGr hS ?_
 refine kf 6 hGr hS ?_
 refine kf 7 hGr hS ?_
 refine kg 8 hGr hS ?_
 refine kf 9 hGr hS ?_
 refine wpAnyK_op1 10 kr_ (by decide) (fun u hu => ?_)
 replace hu : Below w.heap.size w u := below_step (Below.drew (Below.refl _ _)) hu
 refine wpOp_step rfl (fun K hK => ?_)
 go_simp
 have zu := hu.size
 have hmd := made_any x.ca x.cc cs x.wa nw x.wc r k p d room seed u (h.confs.below (h.low.trans (hu.mono h.low.size))) i hic (hps _ (List.getElem_mem hic))
 unfold planV at hmd
 (with_reducible refine hmd.mono ?_)
 rintro e y ⟨⟨hno, _⟩ | ⟨_, N, rfl, _⟩, by0⟩
 ·
  rw [hok _ (List.getElem_mem hic)] at hno; cases hno
 have bY : Below w.heap.size w y := hu.trans (by0.mono zu)
 have hS : XS [] (fun W => Below w.heap.size w W) y := ⟨trivial, bY⟩
 refine hK _ _ ⟨hS, ?_⟩
 clear hK K hmd
 (try simp only [Act.put, List.setIfInBounds_toArray, List.set_cons_zero, List.set_cons_succ])
 refine kf 11 hGr hS ?_
 refine kf 12 hGr hS ?_
 refine kf 13 hGr hS ?_
 refine kf 14 hGr hS ?_
 refine wpAnyK_store (k := 15) opt_ rfl rfl kr_ (fun y2 hy => ?_)
 have bY2 : Below w.heap.size w y2 := bY.trans (hy.mono bY.size)
 obtain ⟨w3, hw3, b3, hU⟩ := (h.below bY2).set hi HG.out (some N)
 simp only [Option.map_some] at hw3
 obtain ⟨g', cap', cur, e', _, _, hcur, hcs, _⟩ := (h.below bY2).own.setCell (k := i) (q := 0) (by simpa using hi) (by decide) (.bool true)
 simp only [Value.slice.injEq] at e'
 rw [HG.out] at e'
 simp only [Option.some.injEq, Addr.mk.injEq, and_true] at e'
 obtain ⟨rfl, _, rfl⟩ := e'
 have hcz : i < (row y2 g).size := by rw [hcur]; omega
 have hc3 : y2.cell? ⟨g, i, none⟩ = some ((row y2 g)[i]'hcz) := by rw [cell_of_row' hcz]; exact Array.getElem?_eq_getElem _
 have hf3 := frozen_of_row' hcz
 refine ⟨w3, by go_simp, ⟨trivial, trivial⟩, fun hS => ?_⟩
 refine wpAnyR_done kr_ (fun w9 b9 => ?_) _
 have hlB : B ≤ w.heap.size := by omega
 have zz := bY2.size
 have z3 := b3.size
 have hb : Below B w w9 := (bY2.mono hlB).trans (Below.trans ⟨b3.os, b3.tape, b3.output, b3.size, fun kk hk => b3.block kk (by omega) (by omega)⟩ (b9.mono (by omega)))
 clear hS hy hw3 hc3 hf3 hcur hcs b9 b3 hcF hldp bY bY2 by0 hu
 go_wp2_with fail
 go_ret
 exact ⟨rfl, hb⟩
end
end
section
open Go.RowKit Go.Shelf
theorem NodeK.below {B : Nat} {w w' : World} {N : Nat} {c : ConfX} {r k p d room : Int} {v : Value} (h : NodeK B w N c r k p d room v) (hb : Below w.heap.size w w') : NodeK B w' N c r k p d room v := by
 obtain ⟨w0, w2, h1, h2, h3, h4⟩ := h
 exact ⟨w0, w2, h1, h2, Nat.le_trans h3 hb.size, fun X hX hX2 => ⟨(hb.block X (by omega)).trans (h4 X hX hX2).1, (h4 X hX hX2).2⟩⟩
theorem NodeK.upN {B : Nat} {w : World} {N : Nat} {c : ConfX} {r k p d room : Int} {v : Value} (h : NodeK B w N c r k p d room v) : UpN w N c := by
 obtain ⟨w0, w2, h1, h2, h3, h4⟩ := h
 obtain ⟨pp, A, hF, _⟩ := h2.node w h3 fun X hX hX2 => (h4 X hX hX2).1
 exact hF.upN
theorem FabT.below {w1 : World} {B : Nat} {w w' : World} {F : Nat} {x : FabX} {r k p d room : Int} {seed : List UInt8} {cs : List ConfX} {nw : Nat} {seen : List (Int × Int)} {ns : List Nat} (h : FabT w1 B w F x r k p d room seed cs nw seen ns) (hb : Below w.heap.size w w') : FabT w1 B w' F x r k p d room seed cs nw seen ns :=
 ⟨h.u.below hb, h.seen.below hb, h.gM, h.ltM, h.nMF, fun i N c h1 h2 => (h.nodes i N c h1 h2).below hb⟩
theorem fewP_facts {cs : List ConfX} {nw : Nat} {seed : List UInt8} (h : fewP cs nw seed = true) : cs.length ≤ 4 ∧ nw ≤ 5 ∧ ∀ c ∈ cs, c.ps.length ≤ 1000 ∧ ∀ x ∈ c.ps, x.p.tagged.length ≤ 1000 := by
 unfold fewP at h
 simp only [Bool.and_eq_true, decide_eq_true_eq, List.all_eq_true] at h
 obtain ⟨⟨⟨h1, h2⟩, h3⟩, h4⟩ := h
 refine ⟨h1, h2, fun c hc => ?_⟩
 have h5 := h4 c hc
 unfold fewX fewC at h5
 simp only [Bool.and_eq_true, decide_eq_true_eq, List.all_eq_true] at h5
 obtain ⟨h6, h7, h8⟩ := h5
 exact ⟨by omega, fun x hx => by have := h8 x hx; omega⟩
section
variable (ca : Option Addr) (cc : Nat) (cs : List ConfX) (wa : Option Addr) (wc : Nat) (ws : List WireX) (r k p d room : Int) (seed : List UInt8) (n1 n2 n3 : Int) (s : List UInt8) (w : World) (h : ConfsAt w ca cs) (hw : WiresAt w wa ws)
include h hw
omit hw in
theorem fabricRefuses_many (hfew : fewP cs ws.length seed = false) :
  Calls Tryz.prog 3 #[.agg (planV ca cs.length cc wa ws.length wc r k p d room seed).toArray, .int .i64 n1, .int .i64 n2, .int .i64 n3, .string ⟨s.toArray⟩] w fun e w' => e = .returned (.bool true) ∧ Below w.heap.size w w' := by
 unfold planV
 go_enter Tryz.func3, Tryz.ntmps3
 obtain ⟨w1, hw1⟩ : ∃ x, w.alloc (.cells #[Value.slice ca cs.length cc, .slice wa ws.length wc, .int .i64 r, .int .i64 k, .int .i64 p, .int .i64 d, .int .i64 room, .string ⟨seed.toArray⟩] 26) = x := ⟨_, rfl⟩
 have b1 : Below w.heap.size w w1 := by rw [← hw1]; exact ba_
 have rC1 : row w1 w.heap.size = #[Value.slice ca cs.length cc, .slice wa ws.length wc, .int .i64 r, .int .i64 k, .int .i64 p, .int .i64 d, .int .i64 room, .string ⟨seed.toArray⟩] := by rw [← hw1]; exact row_alloc_at _ _ _ rfl
 have lC1 : w.heap.size < w1.heap.size := by rw [← hw1, alloc_sizeW]; omega
 go_wp2_with fail
 (try rw [hw1])
 clear hw1
 (with_reducible refine (awake26_any _).mono ?_)
 rintro e w2 ⟨rfl, b2⟩
 have B2 := b1.trans (b2.mono b1.size)
 have rC2 := (row_below b2 lC1).trans rC1
 have lC2 : w.heap.size < w2.heap.size := Nat.lt_of_lt_of_le lC1 b2.size
 have HFW := h_ (few26_any ca cc cs wa ws.length wc r k p d room seed w2 (h.below B2))
 have hfw := HFW.out
 unfold planV at hfw
 rw [hfew] at hfw
 clear b1 rC1 lC1 b2 HFW
 go_wp2_with fail
 (with_reducible refine hfw.mono ?_)
 rintro e w3 ⟨rfl, b3⟩
 have B3 := B2.trans (b3.mono B2.size)
 have rC3 := (row_below b3 lC2).trans rC2
 have lC3 : w.heap.size < w3.heap.size := Nat.lt_of_lt_of_le lC2 b3.size
 clear hfw B2 rC2 lC2 b3
 go_wp2_with fail
 (with_reducible refine (awake26_any _).mono ?_)
 rintro e w4 ⟨rfl, b4⟩
 have B4 := B3.trans (b4.mono B3.size)
 go_wp2_with fail
 go_ret
 exact ⟨rfl, B4⟩
omit hw in
theorem fabricRefuses_long (hfew : fewP cs ws.length seed = true) (hs : 1600 < s.length) :
  Calls Tryz.prog 3 #[.agg (planV ca cs.length cc wa ws.length wc r k p d room seed).toArray, .int .i64 n1, .int .i64 n2, .int .i64 n3, .string ⟨s.toArray⟩] w fun e w' => e = .returned (.bool true) ∧ Below w.heap.size w w' := by
 have hsI : (1600 : Int) < (s.length : Int) := by omega
 have dsI : decide ((1600 : Int) < (s.length : Int)) = true := decide_eq_true hsI
 unfold planV
 go_enter Tryz.func3, Tryz.ntmps3
 obtain ⟨w1, hw1⟩ : ∃ x, w.alloc (.cells #[Value.slice ca cs.length cc, .slice wa ws.length wc, .int .i64 r, .int .i64 k, .int .i64 p, .int .i64 d, .int .i64 room, .string ⟨seed.toArray⟩] 26) = x := ⟨_, rfl⟩
 have b1 : Below w.heap.size w w1 := by rw [← hw1]; exact ba_
 have rC1 : row w1 w.heap.size = #[Value.slice ca cs.length cc, .slice wa ws.length wc, .int .i64 r, .int .i64 k, .int .i64 p, .int .i64 d, .int .i64 room, .string ⟨seed.toArray⟩] := by rw [← hw1]; exact row_alloc_at _ _ _ rfl
 have lC1 : w.heap.size < w1.heap.size := by rw [← hw1, alloc_sizeW]; omega
 go_wp2_with fail
 (try rw [hw1])
 clear hw1
 (with_reducible refine (awake26_any _).mono ?_)
 rintro e w2 ⟨rfl, b2⟩
 have B2 := b1.trans (b2.mono b1.size)
 have rC2 := (row_below b2 lC1).trans rC1
 have lC2 : w.heap.size < w2.heap.size := Nat.lt_of_lt_of_le lC1 b2.size
 have HFW := h_ (few26_any ca cc cs wa ws.length wc r k p d room seed w2 (h.below B2))
 have hfw := HFW.out
 unfold planV at hfw
 rw [hfew] at hfw
 clear b1 rC1 lC1 b2 HFW
 go_wp2_with fail
 (with_reducible refine hfw.mono ?_)
 rintro e w3 ⟨rfl, b3⟩
 have B3 := B2.trans (b3.mono B2.size)
 have rC3 := (row_below b3 lC2).trans rC2
 have lC3 : w.heap.size < w3.heap.size := Nat.lt_of_lt_of_le lC2 b3.size
 clear hfw B2 rC2 lC2 b3
 go_wp2_with fail
 (with_reducible refine (awake26_any _).mono ?_)
 rintro e w4 ⟨rfl, b4⟩
 have B4 := B3.trans (b4.mono B3.size)
 go_wp2_with fail
 go_ret
 exact ⟨rfl, B4⟩
theorem fabricRefuses_wrong (hfew : fewP cs ws.length seed = true) (hs : s.length ≤ 1600) (hr : rightF r k p d room cs ws = false) :
  Calls Tryz.prog 3 #[.agg (planV ca cs.length cc wa ws.length wc r k p d room seed).toArray, .int .i64 n1, .int .i64 n2, .int .i64 n3, .string ⟨s.toArray⟩] w fun e w' => e = .returned (.bool true) ∧ Below w.heap.size w w' := by
 have hsI : ¬ (1600 : Int) < (s.length : Int) := by omega
 have dsI : decide ((1600 : Int) < (s.length : Int)) = false := decide_eq_false hsI
 obtain ⟨hc4, hw5, hps⟩ := fewP_facts hfew
 unfold planV
 go_enter Tryz.func3, Tryz.ntmps3
 obtain ⟨w1, hw1⟩ : ∃ x, w.alloc (.cells #[Value.slice ca cs.length cc, .slice wa ws.length wc, .int .i64 r, .int .i64 k, .int .i64 p, .int .i64 d, .int .i64 room, .string ⟨seed.toArray⟩] 26) = x := ⟨_, rfl⟩
 have b1 : Below w.heap.size w w1 := by rw [← hw1]; exact ba_
 have rC1 : row w1 w.heap.size = #[Value.slice ca cs.length cc, .slice wa ws.length wc, .int .i64 r, .int .i64 k, .int .i64 p, .int .i64 d, .int .i64 room, .string ⟨seed.toArray⟩] := by rw [← hw1]; exact row_alloc_at _ _ _ rfl
 have lC1 : w.heap.size < w1.heap.size := by rw [← hw1, alloc_sizeW]; omega
 go_wp2_with fail
 (try rw [hw1])
 clear hw1
 (with_reducible refine (awake26_any _).mono ?_)
 rintro e w2 ⟨rfl, b2⟩
 have B2 := b1.trans (b2.mono b1.size)
 have rC2 := (row_below b2 lC1).trans rC1
 have lC2 : w.heap.size < w2.heap.size := Nat.lt_of_lt_of_le lC1 b2.size
 have HFW := h_ (few26_any ca cc cs wa ws.length wc r k p d room seed w2 (h.below B2))
 have hfw := HFW.out
 unfold planV at hfw
 rw [hfew] at hfw
 clear b1 rC1 lC1 b2 HFW
 go_wp2_with fail
 (with_reducible refine hfw.mono ?_)
 rintro e w3 ⟨rfl, b3⟩
 have B3 := B2.trans (b3.mono B2.size)
 have rC3 := (row_below b3 lC2).trans rC2
 have lC3 : w.heap.size < w3.heap.size := Nat.lt_of_lt_of_le lC2 b3.size
 clear hfw B2 rC2 lC2 b3
 go_wp2_with fail
 (with_reducible refine (fTick_nil _).mono ?_)
 rintro e wn ⟨rfl, hwn⟩
 obtain rfl := hwn.symm
 clear hwn
 go_wp2_with fail
 (with_reducible refine (fCalm_nil _ _).mono ?_)
 rintro e wn ⟨rfl, hwn⟩
 obtain rfl := hwn.symm
 clear hwn
 go_wp2_with fail
 (with_reducible refine (fInject_nil _ _ _ _).mono ?_)
 rintro e wn ⟨rfl, hwn⟩
 obtain rfl := hwn.symm
 clear hwn
 go_wp2_with fail
 (with_reducible refine (fCome_nil _ _ _).mono ?_)
 rintro e wn ⟨rfl, hwn⟩
 obtain rfl := hwn.symm
 clear hwn
 go_wp2_with fail
 (with_reducible refine (fLose_nil _ _).mono ?_)
 rintro e wn ⟨rfl, hwn⟩
 obtain rfl := hwn.symm
 clear hwn
 go_wp2_with fail
 (with_reducible refine (fSpoil_nil _ _ _ _).mono ?_)
 rintro e wn ⟨rfl, hwn⟩
 obtain rfl := hwn.symm
 clear hwn
 go_wp2_with fail
 (with_reducible refine (fCrash_nil _ _).mono ?_)
 rintro e wn ⟨rfl, hwn⟩
 obtain rfl := hwn.symm
 clear hwn
 go_wp2_with fail
 (with_reducible refine (fStart_nil _ _).mono ?_)
 rintro e wn ⟨rfl, hwn⟩
 obtain rfl := hwn.symm
 clear hwn
 go_wp2_with fail
 (with_reducible refine (fPool_nil _).mono ?_)
 rintro e wn ⟨rfl, hwn⟩
 obtain rfl := hwn.symm
 clear hwn
 go_wp2_with fail
 (with_reducible refine (fTold_nil _).mono ?_)
 rintro e wn ⟨rfl, hwn⟩
 obtain rfl := hwn.symm
 clear hwn
 go_wp2_with fail
 (with_reducible refine (fGiven_nil _).mono ?_)
 rintro e wn ⟨rfl, hwn⟩
 obtain rfl := hwn.symm
 clear hwn
 go_wp2_with fail
 (with_reducible refine (fState_nil _ _ _).mono ?_)
 rintro e wn ⟨rfl, hwn⟩
 obtain rfl := hwn.symm
 clear hwn
 go_wp2_with fail
 (with_reducible refine (fUp_nil _ _ _).mono ?_)
 rintro e wn ⟨rfl, hwn⟩
 obtain rfl := hwn.symm
 clear hwn
 go_wp2_with fail
 have hof := ofP_any ca cc cs wa wc ws r k p d room seed w3 (h.below B3) (hw.below B3) (by omega) (fun c hc => (hps c hc).1) (by omega)
 unfold planV at hof
 (with_reducible refine hof.mono ?_)
 rintro e w5 ⟨⟨ca5, wa5, ⟨cc5, wc5, rfl⟩, hC5, hW5⟩, b5⟩
 have B5 := B3.trans (b5.mono B3.size)
 have rC5 := (row_below b5 lC3).trans rC3
 have lC5 : w.heap.size < w5.heap.size := Nat.lt_of_lt_of_le lC3 b5.size
 clear hof
 go_wp2_with fail
 have hn := new_no ca5 cc5 cs wa5 wc5 ws r k p d room seed w5 hC5 hps hW5 (by omega) hr
 unfold planV at hn
 (with_reducible refine hn.mono ?_)
 rintro e w6 ⟨rfl, b6⟩
 have B6 := B5.trans (b6.mono B5.size)
 have rC6 := (row_below b6 lC5).trans rC5
 clear hn
 go_wp2_with fail
 have hof := ofP_any ca cc cs wa wc ws r k p d room seed w6 (h.below B6) (hw.below B6) (by omega) (fun c hc => (hps c hc).1) (by omega)
 unfold planV at hof
 (with_reducible refine hof.mono ?_)
 rintro e w7 ⟨⟨ca7, wa7, ⟨cc7, wc7, rfl⟩, hC7, hW7⟩, b7⟩
 have B7 := B6.trans (b7.mono B6.size)
 have hR := rightF_any ca7 cc7 cs wa7 wc7 ws r k p d room seed w7 hC7 (fun c hc => (hps c hc).1) hW7 (by omega)
 unfold planV at hR
 rw [hr] at hR
 clear hof
 go_wp2_with fail
 (with_reducible refine hR.mono ?_)
 rintro e w8 ⟨rfl, b8⟩
 have B8 := B7.trans (b8.mono B7.size)
 clear hR
 go_wp2_with fail
 go_ret
 exact ⟨rfl, B8⟩
theorem fabricRefuses_out (hfew : fewP cs ws.length seed = true) (hs : s.length ≤ 1600) (hr : rightF r k p d room cs ws = true) (hn1 : n1 < 0 ∨ (cs.length : Int) ≤ n1) :
  Calls Tryz.prog 3 #[.agg (planV ca cs.length cc wa ws.length wc r k p d room seed).toArray, .int .i64 n1, .int .i64 n2, .int .i64 n3, .string ⟨s.toArray⟩] w fun e w' => e = .returned (.bool true) ∧ Below w.heap.size w w' := by
 have hsI : ¬ (1600 : Int) < (s.length : Int) := by omega
 have dsI : decide ((1600 : Int) < (s.length : Int)) = false := decide_eq_false hsI
 obtain ⟨hc4, hw5, hps⟩ := fewP_facts hfew
 unfold planV
 go_enter Tryz.func3, Tryz.ntmps3
 obtain ⟨w1, hw1⟩ : ∃ x, w.alloc (.cells #[Value.slice ca cs.length cc, .slice wa ws.length wc, .int .i64 r, .int .i64 k, .int .i64 p, .int .i64 d, .int .i64 room, .string ⟨seed.toArray⟩] 26) = x := ⟨_, rfl⟩
 have b1 : Below w.heap.size w w1 := by rw [← hw1]; exact ba_
 have rC1 : row w1 w.heap.size = #[Value.slice ca cs.length cc, .slice wa ws.length wc, .int .i64 r, .int .i64 k, .int .i64 p, .int .i64 d, .int .i64 room, .string ⟨seed.toArray⟩] := by rw [← hw1]; exact row_alloc_at _ _ _ rfl
 have lC1 : w.heap.size < w1.heap.size := by rw [← hw1, alloc_sizeW]; omega
 go_wp2_with fail
 (try rw [hw1])
 clear hw1
 (with_reducible refine (awake26_any _).mono ?_)
 rintro e w2 ⟨rfl, b2⟩
 have B2 := b1.trans (b2.mono b1.size)
 have rC2 := (row_below b2 lC1).trans rC1
 have lC2 : w.heap.size < w2.heap.size := Nat.lt_of_lt_of_le lC1 b2.size
 have HFW := h_ (few26_any ca cc cs wa ws.length wc r k p d room seed w2 (h.below B2))
 have hfw := HFW.out
 unfold planV at hfw
 rw [hfew] at hfw
 clear b1 rC1 lC1 b2 HFW
 go_wp2_with fail
 (with_reducible refine hfw.mono ?_)
 rintro e w3 ⟨rfl, b3⟩
 have B3 := B2.trans (b3.mono B2.size)
 have rC3 := (row_below b3 lC2).trans rC2
 have lC3 : w.heap.size < w3.heap.size := Nat.lt_of_lt_of_le lC2 b3.size
 clear hfw B2 rC2 lC2 b3
 go_wp2_with fail
 (with_reducible refine (fTick_nil _).mono ?_)
 rintro e wn ⟨rfl, hwn⟩
 obtain rfl := hwn.symm
 clear hwn
 go_wp2_with fail
 (with_reducible refine (fCalm_nil _ _).mono ?_)
 rintro e wn ⟨rfl, hwn⟩
 obtain rfl := hwn.symm
 clear hwn
 go_wp2_with fail
 (with_reducible refine (fInject_nil _ _ _ _).mono ?_)
 rintro e wn ⟨rfl, hwn⟩
 obtain rfl := hwn.symm
 clear hwn
 go_wp2_with fail
 (with_reducible refine (fCome_nil _ _ _).mono ?_)
 rintro e wn ⟨rfl, hwn⟩
 obtain rfl := hwn.symm
 clear hwn
 go_wp2_with fail
 (with_reducible refine (fLose_nil _ _).mono ?_)
 rintro e wn ⟨rfl, hwn⟩
 obtain rfl := hwn.symm
 clear hwn
 go_wp2_with fail
 (with_reducible refine (fSpoil_nil _ _ _ _).mono ?_)
 rintro e wn ⟨rfl, hwn⟩
 obtain rfl := hwn.symm
 clear hwn
 go_wp2_with fail
 (with_reducible refine (fCrash_nil _ _).mono ?_)
 rintro e wn ⟨rfl, hwn⟩
 obtain rfl := hwn.symm
 clear hwn
 go_wp2_with fail
 (with_reducible refine (fStart_nil _ _).mono ?_)
 rintro e wn ⟨rfl, hwn⟩
 obtain rfl := hwn.symm
 clear hwn
 go_wp2_with fail
 (with_reducible refine (fPool_nil _).mono ?_)
 rintro e wn ⟨rfl, hwn⟩
 obtain rfl := hwn.symm
 clear hwn
 go_wp2_with fail
 (with_reducible refine (fTold_nil _).mono ?_)
 rintro e wn ⟨rfl, hwn⟩
 obtain rfl := hwn.symm
 clear hwn
 go_wp2_with fail
 (with_reducible refine (fGiven_nil _).mono ?_)
 rintro e wn ⟨rfl, hwn⟩
 obtain rfl := hwn.symm
 clear hwn
 go_wp2_with fail
 (with_reducible refine (fState_nil _ _ _).mono ?_)
 rintro e wn ⟨rfl, hwn⟩
 obtain rfl := hwn.symm
 clear hwn
 go_wp2_with fail
 (with_reducible refine (fUp_nil _ _ _).mono ?_)
 rintro e wn ⟨rfl, hwn⟩
 obtain rfl := hwn.symm
 clear hwn
 go_wp2_with fail
 have hof := ofP_any ca cc cs wa wc ws r k p d room seed w3 (h.below B3) (hw.below B3) (by omega) (fun c hc => (hps c hc).1) (by omega)
 unfold planV at hof
 (with_reducible refine hof.mono ?_)
 rintro e w5 ⟨⟨ca5, wa5, ⟨cc5, wc5, rfl⟩, hC5, hW5⟩, b5⟩
 have B5 := B3.trans (b5.mono B3.size)
 have rC5 := (row_below b5 lC3).trans rC3
 have lC5 : w.heap.size < w5.heap.size := Nat.lt_of_lt_of_le lC3 b5.size
 clear hof
 go_wp2_with fail
 have hn := new_yes ca5 cc5 cs wa5 wc5 ws r k p d room seed w5 hC5 hps hW5 (by omega) hr
 unfold planV at hn
 (with_reducible refine hn.mono ?_)
 rintro e w6 ⟨⟨F, rfl, wf, hwf, B, x, seen, ns, hT6⟩, b6⟩
 have B6 := B5.trans (b6.mono B5.size)
 have rC6 := (row_below b6 lC5).trans rC5
 clear hn
 go_wp2_with fail
 have hof := ofP_any ca cc cs wa wc ws r k p d room seed w6 (h.below B6) (hw.below B6) (by omega) (fun c hc => (hps c hc).1) (by omega)
 unfold planV at hof
 (with_reducible refine hof.mono ?_)
 rintro e w7 ⟨⟨ca7, wa7, ⟨cc7, wc7, rfl⟩, hC7, hW7⟩, b7⟩
 have B7 := B6.trans (b7.mono B6.size)
 have hR := rightF_any ca7 cc7 cs wa7 wc7 ws r k p d room seed w7 hC7 (fun c hc => (hps c hc).1) hW7 (by omega)
 unfold planV at hR
 rw [hr] at hR
 clear hof
 go_wp2_with fail
 (with_reducible refine hR.mono ?_)
 rintro e w8 ⟨rfl, b8⟩
 have B8 := B7.trans (b8.mono B7.size)
 clear hR
 have HT := h_ (hT6.below (b7.trans (b8.mono b7.size)))
 have rC8 := (row_below (b7.trans (b8.mono b7.size)) (show w.heap.size < w6.heap.size by have := b6.size; omega)).trans rC6
 have lC8 : w.heap.size < w8.heap.size := by have := b6.size; have := b7.size; have := b8.size; omega
 have hwf' : w.heap.size ≤ wf.heap.size := by have := B5.size; omega
 have HPS := h_ hps
 have hlen : ns.length = cs.length := by have := HT.out.u.len; rwa [List.length_map] at this
 have hl2 : (ns.map some).length = cs.length := by rw [List.length_map]; exact hlen
 clear hT6 b7 b8 b6 rC6 rC5 lC5 B5 B6 B7 rC3 lC3 b5 hC5 hW5 hC7 hW7 hwf
 have hnI : n1 < 0 ∨ ((ns.map some).length : Int) ≤ n1 := by rw [hl2]; exact hn1
 rcases Int.lt_or_le n1 0 with hneg | hpos
 ·
  have d1 : decide (0 ≤ n1) = false := decide_eq_false (by omega)
  go_wp2_with fail
  (with_reducible refine (fCome_none HT.out.u _ _).mono ?_)
  rintro e wn ⟨rfl, hwn⟩
  obtain rfl := hwn.symm
  clear hwn
  go_wp2_with fail
  (with_reducible refine (fLose_none HT.out.u _).mono ?_)
  rintro e wn ⟨rfl, hwn⟩
  obtain rfl := hwn.symm
  clear hwn
  go_wp2_with fail
  (with_reducible refine (fSpoil_none HT.out.u _ _ _).mono ?_)
  rintro e wn ⟨rfl, hwn⟩
  obtain rfl := hwn.symm
  clear hwn
  go_wp2_with fail
  (with_reducible refine (fStart_out HT.out.u _ hnI).mono ?_)
  rintro e wn ⟨rfl, hwn⟩
  obtain rfl := hwn.symm
  clear hwn
  go_wp2_with fail
  (with_reducible refine (fInject_out HT.out.u _ _ _ hnI).mono ?_)
  rintro e wn ⟨rfl, hwn⟩
  obtain rfl := hwn.symm
  clear hwn
  go_wp2_with fail
  (with_reducible refine (fUp_out HT.out.u _ _ hnI).mono ?_)
  rintro e wn ⟨rfl, hwn⟩
  obtain rfl := hwn.symm
  clear hwn
  go_wp2_with fail
  (with_reducible refine (fCrash_out HT.out.u _ hnI).mono ?_)
  rintro e wn ⟨rfl, hwn⟩
  obtain rfl := hwn.symm
  clear hwn
  go_wp2_with fail
  (with_reducible refine (fCrash_out HT.out.u _ hnI).mono ?_)
  rintro e wn ⟨rfl, hwn⟩
  obtain rfl := hwn.symm
  clear hwn
  go_wp2_with fail
  (with_reducible refine (fUp_out HT.out.u _ _ hnI).mono ?_)
  rintro e wn ⟨rfl, hwn⟩
  obtain rfl := hwn.symm
  clear hwn
  go_wp2_with fail
  (with_reducible refine (fStart_out HT.out.u _ hnI).mono ?_)
  rintro e wn ⟨rfl, hwn⟩
  obtain rfl := hwn.symm
  clear hwn
  go_wp2_with fail
  go_ret
  exact ⟨rfl, B8⟩
 ·
  have d1 : decide (0 ≤ n1) = true := decide_eq_true hpos
  have d2 : decide (n1 < (cs.length : Int)) = false := decide_eq_false (by omega)
  go_wp2_with fail
  (with_reducible refine (fCome_none HT.out.u _ _).mono ?_)
  rintro e wn ⟨rfl, hwn⟩
  obtain rfl := hwn.symm
  clear hwn
  go_wp2_with fail
  (with_reducible refine (fLose_none HT.out.u _).mono ?_)
  rintro e wn ⟨rfl, hwn⟩
  obtain rfl := hwn.symm
  clear hwn
  go_wp2_with fail
  (with_reducible refine (fSpoil_none HT.out.u _ _ _).mono ?_)
  rintro e wn ⟨rfl, hwn⟩
  obtain rfl := hwn.symm
  clear hwn
  go_wp2_with fail
  (with_reducible refine (fStart_out HT.out.u _ hnI).mono ?_)
  rintro e wn ⟨rfl, hwn⟩
  obtain rfl := hwn.symm
  clear hwn
  go_wp2_with fail
  (with_reducible refine (fInject_out HT.out.u _ _ _ hnI).mono ?_)
  rintro e wn ⟨rfl, hwn⟩
  obtain rfl := hwn.symm
  clear hwn
  go_wp2_with fail
  (with_reducible refine (fUp_out HT.out.u _ _ hnI).mono ?_)
  rintro e wn ⟨rfl, hwn⟩
  obtain rfl := hwn.symm
  clear hwn
  go_wp2_with fail
  (with_reducible refine (fCrash_out HT.out.u _ hnI).mono ?_)
  rintro e wn ⟨rfl, hwn⟩
  obtain rfl := hwn.symm
  clear hwn
  go_wp2_with fail
  (with_reducible refine (fCrash_out HT.out.u _ hnI).mono ?_)
  rintro e wn ⟨rfl, hwn⟩
  obtain rfl := hwn.symm
  clear hwn
  go_wp2_with fail
  (with_reducible refine (fUp_out HT.out.u _ _ hnI).mono ?_)
  rintro e wn ⟨rfl, hwn⟩
  obtain rfl := hwn.symm
  clear hwn
  go_wp2_with fail
  (with_reducible refine (fStart_out HT.out.u _ hnI).mono ?_)
  rintro e wn ⟨rfl, hwn⟩
  obtain rfl := hwn.symm
  clear hwn
  go_wp2_with fail
  go_ret
  exact ⟨rfl, B8⟩
end
end
section
open Go.RowKit Go.Shelf
section
variable (ca : Option Addr) (cc : Nat) (cs : List ConfX) (wa : Option Addr) (wc : Nat) (ws : List WireX) (r k p d room : Int) (seed : List UInt8) (n1 n2 n3 : Int) (s : List UInt8) (w : World) (h : ConfsAt w ca cs) (hw : WiresAt w wa ws)
include h hw
theorem fabricRefuses_in (hfew : fewP cs ws.length seed = true) (hs : s.length ≤ 1600) (hr : rightF r k p d room cs ws = true) (i : Nat) (hi : i < cs.length) :
  Calls Tryz.prog 3 #[.agg (planV ca cs.length cc wa ws.length wc r k p d room seed).toArray, .int .i64 (i : Int), .int .i64 n2, .int .i64 n3, .string ⟨s.toArray⟩] w fun e w' => e = .returned (.bool true) ∧ Below w.heap.size w w' := by
 have hsI : ¬ (1600 : Int) < (s.length : Int) := by omega
 have dsI : decide ((1600 : Int) < (s.length : Int)) = false := decide_eq_false hsI
 obtain ⟨hc4, hw5, hps⟩ := fewP_facts hfew
 unfold planV
 go_enter Tryz.func3, Tryz.ntmps3
 obtain ⟨w1, hw1⟩ : ∃ x, w.alloc (.cells #[Value.slice ca cs.length cc, .slice wa ws.length wc, .int .i64 r, .int .i64 k, .int .i64 p, .int .i64 d, .int .i64 room, .string ⟨seed.toArray⟩] 26) = x := ⟨_, rfl⟩
 have b1 : Below w.heap.size w w1 := by rw [← hw1]; exact ba_
 have rC1 : row w1 w.heap.size = #[Value.slice ca cs.length cc, .slice wa ws.length wc, .int .i64 r, .int .i64 k, .int .i64 p, .int .i64 d, .int .i64 room, .string ⟨seed.toArray⟩] := by rw [← hw1]; exact row_alloc_at _ _ _ rfl
 have lC1 : w.heap.size < w1.heap.size := by rw [← hw1, alloc_sizeW]; omega
 go_wp2_with fail
 (try rw [hw1])
 clear hw1
 (with_reducible refine (awake26_any _).mono ?_)
 rintro e w2 ⟨rfl, b2⟩
 have B2 := b1.trans (b2.mono b1.size)
 have rC2 := (row_below b2 lC1).trans rC1
 have lC2 : w.heap.size < w2.heap.size := Nat.lt_of_lt_of_le lC1 b2.size
 have HFW := h_ (few26_any ca cc cs wa ws.length wc r k p d room seed w2 (h.below B2))
 have hfw := HFW.out
 unfold planV at hfw
 rw [hfew] at hfw
 clear b1 rC1 lC1 b2 HFW
 go_wp2_with fail
 (with_reducible refine hfw.mono ?_)
 rintro e w3 ⟨rfl, b3⟩
 have B3 := B2.trans (b3.mono B2.size)
 have rC3 := (row_below b3 lC2).trans rC2
 have lC3 : w.heap.size < w3.heap.size := Nat.lt_of_lt_of_le lC2 b3.size
 clear hfw B2 rC2 lC2 b3
 go_wp2_with fail
 (with_reducible refine (fTick_nil _).mono ?_)
 rintro e wn ⟨rfl, hwn⟩
 obtain rfl := hwn.symm
 clear hwn
 go_wp2_with fail
 (with_reducible refine (fCalm_nil _ _).mono ?_)
 rintro e wn ⟨rfl, hwn⟩
 obtain rfl := hwn.symm
 clear hwn
 go_wp2_with fail
 (with_reducible refine (fInject_nil _ _ _ _).mono ?_)
 rintro e wn ⟨rfl, hwn⟩
 obtain rfl := hwn.symm
 clear hwn
 go_wp2_with fail
 (with_reducible refine (fCome_nil _ _ _).mono ?_)
 rintro e wn ⟨rfl, hwn⟩
 obtain rfl := hwn.symm
 clear hwn
 go_wp2_with fail
 (with_reducible refine (fLose_nil _ _).mono ?_)
 rintro e wn ⟨rfl, hwn⟩
 obtain rfl := hwn.symm
 clear hwn
 go_wp2_with fail
 (with_reducible refine (fSpoil_nil _ _ _ _).mono ?_)
 rintro e wn ⟨rfl, hwn⟩
 obtain rfl := hwn.symm
 clear hwn
 go_wp2_with fail
 (with_reducible refine (fCrash_nil _ _).mono ?_)
 rintro e wn ⟨rfl, hwn⟩
 obtain rfl := hwn.symm
 clear hwn
 go_wp2_with fail
 (with_reducible refine (fStart_nil _ _).mono ?_)
 rintro e wn ⟨rfl, hwn⟩
 obtain rfl := hwn.symm
 clear hwn
 go_wp2_with fail
 (with_reducible refine (fPool_nil _).mono ?_)
 rintro e wn ⟨rfl, hwn⟩
 obtain rfl := hwn.symm
 clear hwn
 go_wp2_with fail
 (with_reducible refine (fTold_nil _).mono ?_)
 rintro e wn ⟨rfl, hwn⟩
 obtain rfl := hwn.symm
 clear hwn
 go_wp2_with fail
 (with_reducible refine (fGiven_nil _).mono ?_)
 rintro e wn ⟨rfl, hwn⟩
 obtain rfl := hwn.symm
 clear hwn
 go_wp2_with fail
 (with_reducible refine (fState_nil _ _ _).mono ?_)
 rintro e wn ⟨rfl, hwn⟩
 obtain rfl := hwn.symm
 clear hwn
 go_wp2_with fail
 (with_reducible refine (fUp_nil _ _ _).mono ?_)
 rintro e wn ⟨rfl, hwn⟩
 obtain rfl := hwn.symm
 clear hwn
 go_wp2_with fail
 have hof := ofP_any ca cc cs wa wc ws r k p d room seed w3 (h.below B3) (hw.below B3) (by omega) (fun c hc => (hps c hc).1) (by omega)
 unfold planV at hof
 (with_reducible refine hof.mono ?_)
 rintro e w5 ⟨⟨ca5, wa5, ⟨cc5, wc5, rfl⟩, hC5, hW5⟩, b5⟩
 have B5 := B3.trans (b5.mono B3.size)
 have rC5 := (row_below b5 lC3).trans rC3
 have lC5 : w.heap.size < w5.heap.size := Nat.lt_of_lt_of_le lC3 b5.size
 clear hof
 go_wp2_with fail
 have hn := new_yes ca5 cc5 cs wa5 wc5 ws r k p d room seed w5 hC5 hps hW5 (by omega) hr
 unfold planV at hn
 (with_reducible refine hn.mono ?_)
 rintro e w6 ⟨⟨F, rfl, wf, hwf, B, x, seen, ns, hT6⟩, b6⟩
 have B6 := B5.trans (b6.mono B5.size)
 have rC6 := (row_below b6 lC5).trans rC5
 clear hn
 go_wp2_with fail
 have hof := ofP_any ca cc cs wa wc ws r k p d room seed w6 (h.below B6) (hw.below B6) (by omega) (fun c hc => (hps c hc).1) (by omega)
 unfold planV at hof
 (with_reducible refine hof.mono ?_)
 rintro e w7 ⟨⟨ca7, wa7, ⟨cc7, wc7, rfl⟩, hC7, hW7⟩, b7⟩
 have B7 := B6.trans (b7.mono B6.size)
 have hR := rightF_any ca7 cc7 cs wa7 wc7 ws r k p d room seed w7 hC7 (fun c hc => (hps c hc).1) hW7 (by omega)
 unfold planV at hR
 rw [hr] at hR
 clear hof
 go_wp2_with fail
 (with_reducible refine hR.mono ?_)
 rintro e w8 ⟨rfl, b8⟩
 have B8 := B7.trans (b8.mono B7.size)
 clear hR
 have HT := h_ (hT6.below (b7.trans (b8.mono b7.size)))
 have rC8 := (row_below (b7.trans (b8.mono b7.size)) (show w.heap.size < w6.heap.size by have := b6.size; omega)).trans rC6
 have lC8 : w.heap.size < w8.heap.size := by have := b6.size; have := b7.size; have := b8.size; omega
 have hwf' : w.heap.size ≤ wf.heap.size := by have := B5.size; omega
 have HPS := h_ hps
 have hlen : ns.length = cs.length := by have := HT.out.u.len; rwa [List.length_map] at this
 have hl2 : (ns.map some).length = cs.length := by rw [List.length_map]; exact hlen
 clear hT6 b7 b8 b6 rC6 rC5 lC5 B5 B6 B7 rC3 lC3 b5 hC5 hW5 hC7 hW7 hwf
 obtain ⟨N, hN⟩ : ∃ N, ns[i]? = some N := ⟨ns[i]'(by omega), List.getElem?_eq_getElem _⟩
 have hil : i < (ns.map some).length := by rw [hl2]; exact hi
 have hni : (ns.map some)[i] = some N := by
  have := (List.getElem?_eq_some_iff.1 hN).2
  rw [List.getElem_map, this]
 obtain ⟨c, hc⟩ : ∃ c, cs[i]? = some c := ⟨cs[i], List.getElem?_eq_getElem hi⟩
 have hci : cs[i] = c := (List.getElem?_eq_some_iff.1 hc).2
 have hup := (HT.out.nodes i N c hN hc).upN
 have hcm : c ∈ cs := hci ▸ List.getElem_mem hi
 have hcl := (HPS.out c hcm).1
 obtain ⟨b, off, pa, cap, hca, hb, hr0⟩ := h.get hi
 rw [hci] at hr0
 obtain ⟨hra, hpx⟩ := hr0 w8 B8
 have hcc0 : w8.cell? ⟨b, off + i * 13 + 12, none⟩ = some (.slice pa c.ps.length cap) := hra 12 _ (by simp [confXV, confV])
 have HUP := h_ hup
 have HPX := h_ hpx
 have HC := h_ hc
 have HNI := h_ hni
 have HNN := h_ hN
 have HH := h_ h
 have HRH := h_ hr
 have d1 : decide (0 ≤ (i : Int)) = true := decide_eq_true (by omega)
 have d2 : decide ((i : Int) < (cs.length : Int)) = true := decide_eq_true (by omega)
 have hiI : (i : Int) < (cs.length : Int) := by omega
 have hok : ∀ c ∈ cs, madeOk r k p d room c = true := by
  unfold rightF at hr
  simp only [Bool.and_eq_true] at hr
  exact fun c hc => List.all_eq_true.1 hr.1.2 c hc
 have HOK := h_ hok
 obtain ⟨o, ho⟩ : ∃ o, off + i * 13 = o := ⟨_, rfl⟩
 rw [ho] at hcc0
 have HO := h_ ho
 clear hok hup hpx hc hni hN hra hr0 hci hcm h hr hw
 subst hca
 go_wp2_with fail
 (with_reducible refine (fCome_none HT.out.u _ _).mono ?_)
 rintro e wn ⟨rfl, hwn⟩
 obtain rfl := hwn.symm
 clear hwn
 go_wp2_with fail
 (with_reducible refine (fLose_none HT.out.u _).mono ?_)
 rintro e wn ⟨rfl, hwn⟩
 obtain rfl := hwn.symm
 clear hwn
 go_wp2_with fail
 (with_reducible refine (fSpoil_none HT.out.u _ _ _).mono ?_)
 rintro e wn ⟨rfl, hwn⟩
 obtain rfl := hwn.symm
 clear hwn
 go_wp2_with fail
 (with_reducible refine (fStart_runs HT.out.u i hil N HNI.out).mono ?_)
 rintro e wn ⟨rfl, hwn⟩
 obtain rfl := hwn.symm
 clear hwn
 rcases Int.lt_or_le n2 0 with hneg | hpos
 ·
  have ht : tapX c n2 = false := by unfold tapX; rw [decide_eq_false (by omega)]; rfl
  have d3 : decide (0 ≤ n2) = false := decide_eq_false (by omega)
  go_wp2_with fail
  (with_reducible refine (fInject_no HT.out.u i n2 s hil N HNI.out c HUP.out ht).mono ?_)
  rintro e w9 ⟨rfl, b9⟩
  have B9 := B8.trans (b9.mono B8.size)
  have HU9 := h_ (HT.out.u.below b9)
  have HUP9 := h_ (HUP.out.below b9)
  clear b9
  go_wp2_with fail
  (with_reducible refine (fUp_in HU9.out i hil n2 (tapX c n2) (fun W hW => by rw [HNI.out, Option.map_some]; exact (HUP9.out.below hW).up n2)).mono ?_)
  rintro e w10 ⟨rfl, b10⟩
  have B10 := B9.trans (b10.mono B9.size)
  have HU10 := h_ (HU9.out.below b10)
  rw [ht]
  go_wp2_with fail
  (with_reducible refine (fCrash_ok HU10.out i hil N HNI.out).mono ?_)
  rintro e w11 ⟨rfl, hU11, b11⟩
  have hBw : w.heap.size ≤ B := by have := HU10.out.ltF; have := HU10.out.gF; omega
  have B11 := B10.trans (b11.mono hBw)
  have HU11 := h_ hU11
  have hil2 : i < ((ns.map some).set i none).length := by rw [List.length_set]; exact hil
  have hn2 : ((ns.map some).set i none)[i] = none := by rw [List.getElem_set_self]
  have HN2 := h_ hn2
  clear hU11 hn2 b11 b10
  go_wp2_with fail
  (with_reducible refine (fCrash_none HU11.out i hil2 HN2.out).mono ?_)
  rintro e wn ⟨rfl, hwn⟩
  obtain rfl := hwn.symm
  clear hwn
  go_wp2_with fail
  (with_reducible refine (fUp_in HU11.out i hil2 n2 false (fun W hW => by rw [HN2.out, Option.map_none]; exact (nUp_nil n2 W).mono fun e w' (hh : _ ∧ _) => ⟨hh.1, by rw [hh.2]; exact Below.refl _ _⟩)).mono ?_)
  rintro e w12 ⟨rfl, b12⟩
  have B12 := B11.trans (b12.mono B11.size)
  have HU12 := h_ (HU11.out.below b12)
  clear b12
  go_wp2_with fail
  (with_reducible refine (fStart_ok HU12.out i hil2 HN2.out (fun c hc => (HPS.out c hc).1) HOK.out).mono ?_)
  rintro e w13 ⟨rfl, b13⟩
  have B13 := B12.trans (b13.mono hBw)
  clear b13
  go_wp2_with fail
  go_ret
  exact ⟨rfl, B13⟩
 ·
  have d3 : decide (0 ≤ n2) = true := decide_eq_true hpos
  rcases Int.lt_or_le n2 (c.ps.length : Int) with hin | hge
  ·
   have d4 : decide (n2 < (c.ps.length : Int)) = true := decide_eq_true hin
   obtain ⟨q, rfl⟩ : ∃ q : Nat, n2 = q := ⟨n2.toNat, by omega⟩
   have hq : q < c.ps.length := by omega
   obtain ⟨pb, poff, pta, ptc, rfl, hpb, hpr⟩ := HPX.out.get hq
   have hlc : w8.cell? ⟨pb, poff + q * 39 + 4, none⟩ = some (.bool c.ps[q].link) := (hpr w8 (BelowS.of (Below.refl _ _))).1 4 _ (by simp [portXV])
   obtain ⟨po, hpo⟩ : ∃ o, poff + q * 39 = o := ⟨_, rfl⟩
   rw [hpo] at hlc
   clear hpr
   have htq : tapX c (q : Int) = !c.ps[q].link := by simp [tapX, hq]
   obtain ⟨lk, hlk⟩ : ∃ b, c.ps[q].link = b := ⟨_, rfl⟩
   rw [hlk] at htq hlc
   have HTQ := h_ htq
   have HLK := h_ hlk
   clear htq hlk
   cases lk with
   | true =>
    have ht : tapX c (q : Int) = false := HTQ.out
    go_wp2_with fail
    (with_reducible refine (fInject_no HT.out.u i (q : Int) s hil N HNI.out c HUP.out ht).mono ?_)
    rintro e w9 ⟨rfl, b9⟩
    have B9 := B8.trans (b9.mono B8.size)
    have HU9 := h_ (HT.out.u.below b9)
    have HUP9 := h_ (HUP.out.below b9)
    clear b9
    go_wp2_with fail
    (with_reducible refine (fUp_in HU9.out i hil (q : Int) (tapX c (q : Int)) (fun W hW => by rw [HNI.out, Option.map_some]; exact (HUP9.out.below hW).up (q : Int))).mono ?_)
    rintro e w10 ⟨rfl, b10⟩
    have B10 := B9.trans (b10.mono B9.size)
    have HU10 := h_ (HU9.out.below b10)
    rw [ht]
    go_wp2_with fail
    (with_reducible refine (fCrash_ok HU10.out i hil N HNI.out).mono ?_)
    rintro e w11 ⟨rfl, hU11, b11⟩
    have hBw : w.heap.size ≤ B := by have := HU10.out.ltF; have := HU10.out.gF; omega
    have B11 := B10.trans (b11.mono hBw)
    have HU11 := h_ hU11
    have hil2 : i < ((ns.map some).set i none).length := by rw [List.length_set]; exact hil
    have hn2 : ((ns.map some).set i none)[i] = none := by rw [List.getElem_set_self]
    have HN2 := h_ hn2
    clear hU11 hn2 b11 b10
    go_wp2_with fail
    (with_reducible refine (fCrash_none HU11.out i hil2 HN2.out).mono ?_)
    rintro e wn ⟨rfl, hwn⟩
    obtain rfl := hwn.symm
    clear hwn
    go_wp2_with fail
    (with_reducible refine (fUp_in HU11.out i hil2 (q : Int) false (fun W hW => by rw [HN2.out, Option.map_none]; exact (nUp_nil (q : Int) W).mono fun e w' (hh : _ ∧ _) => ⟨hh.1, by rw [hh.2]; exact Below.refl _ _⟩)).mono ?_)
    rintro e w12 ⟨rfl, b12⟩
    have B12 := B11.trans (b12.mono B11.size)
    have HU12 := h_ (HU11.out.below b12)
    clear b12
    go_wp2_with fail
    (with_reducible refine (fStart_ok HU12.out i hil2 HN2.out (fun c hc => (HPS.out c hc).1) HOK.out).mono ?_)
    rintro e w13 ⟨rfl, b13⟩
    have B13 := B12.trans (b13.mono hBw)
    clear b13
    go_wp2_with fail
    go_ret
    exact ⟨rfl, B13⟩
   | false =>
    have ht : tapX c (q : Int) = true := HTQ.out
    have hlink := HLK.out
    obtain ⟨t, ht0⟩ := talk_line s (by omega)
    go_wp2_with fail
    have hinj := fInject_ok HT.out i N c HNN.out HC.out q hq hlink s (by omega) t ht0
    (with_reducible refine hinj.mono ?_)
    rintro e w9 ⟨⟨told, given, es, rfl, hU9, hup9, _, _⟩, b9⟩
    have B9 := B8.trans (b9.mono hwf')
    have HU9 := h_ hU9
    have HUP9 := h_ hup9
    clear b9 hU9 hup9 hinj
    go_wp2_with fail
    (with_reducible refine (fUp_in HU9.out i hil (q : Int) (tapX c (q : Int)) (fun W hW => by rw [HNI.out, Option.map_some]; exact (HUP9.out.below hW).up (q : Int))).mono ?_)
    rintro e w10 ⟨rfl, b10⟩
    have B10 := B9.trans (b10.mono B9.size)
    have HU10 := h_ (HU9.out.below b10)
    rw [ht]
    go_wp2_with fail
    (with_reducible refine (fCrash_ok HU10.out i hil N HNI.out).mono ?_)
    rintro e w11 ⟨rfl, hU11, b11⟩
    have hBw : w.heap.size ≤ B := by have := HU10.out.ltF; have := HU10.out.gF; omega
    have B11 := B10.trans (b11.mono hBw)
    have HU11 := h_ hU11
    have hil2 : i < ((ns.map some).set i none).length := by rw [List.length_set]; exact hil
    have hn2 : ((ns.map some).set i none)[i] = none := by rw [List.getElem_set_self]
    have HN2 := h_ hn2
    clear hU11 hn2 b11 b10
    go_wp2_with fail
    (with_reducible refine (fCrash_none HU11.out i hil2 HN2.out).mono ?_)
    rintro e wn ⟨rfl, hwn⟩
    obtain rfl := hwn.symm
    clear hwn
    go_wp2_with fail
    (with_reducible refine (fUp_in HU11.out i hil2 (q : Int) false (fun W hW => by rw [HN2.out, Option.map_none]; exact (nUp_nil (q : Int) W).mono fun e w' (hh : _ ∧ _) => ⟨hh.1, by rw [hh.2]; exact Below.refl _ _⟩)).mono ?_)
    rintro e w12 ⟨rfl, b12⟩
    have B12 := B11.trans (b12.mono B11.size)
    have HU12 := h_ (HU11.out.below b12)
    clear b12
    go_wp2_with fail
    (with_reducible refine (fStart_ok HU12.out i hil2 HN2.out (fun c hc => (HPS.out c hc).1) HOK.out).mono ?_)
    rintro e w13 ⟨rfl, b13⟩
    have B13 := B12.trans (b13.mono hBw)
    clear b13
    go_wp2_with fail
    go_ret
    exact ⟨rfl, B13⟩
  ·
   have d4 : decide (n2 < (c.ps.length : Int)) = false := decide_eq_false (by omega)
   have ht : tapX c n2 = false := by
    unfold tapX
    rw [List.getElem?_eq_none (by omega)]
    simp
   go_wp2_with fail
   (with_reducible refine (fInject_no HT.out.u i n2 s hil N HNI.out c HUP.out ht).mono ?_)
   rintro e w9 ⟨rfl, b9⟩
   have B9 := B8.trans (b9.mono B8.size)
   have HU9 := h_ (HT.out.u.below b9)
   have HUP9 := h_ (HUP.out.below b9)
   clear b9
   go_wp2_with fail
   (with_reducible refine (fUp_in HU9.out i hil n2 (tapX c n2) (fun W hW => by rw [HNI.out, Option.map_some]; exact (HUP9.out.below hW).up n2)).mono ?_)
   rintro e w10 ⟨rfl, b10⟩
   have B10 := B9.trans (b10.mono B9.size)
   have HU10 := h_ (HU9.out.below b10)
   rw [ht]
   go_wp2_with fail
   (with_reducible refine (fCrash_ok HU10.out i hil N HNI.out).mono ?_)
   rintro e w11 ⟨rfl, hU11, b11⟩
   have hBw : w.heap.size ≤ B := by have := HU10.out.ltF; have := HU10.out.gF; omega
   have B11 := B10.trans (b11.mono hBw)
   have HU11 := h_ hU11
   have hil2 : i < ((ns.map some).set i none).length := by rw [List.length_set]; exact hil
   have hn2 : ((ns.map some).set i none)[i] = none := by rw [List.getElem_set_self]
   have HN2 := h_ hn2
   clear hU11 hn2 b11 b10
   go_wp2_with fail
   (with_reducible refine (fCrash_none HU11.out i hil2 HN2.out).mono ?_)
   rintro e wn ⟨rfl, hwn⟩
   obtain rfl := hwn.symm
   clear hwn
   go_wp2_with fail
   (with_reducible refine (fUp_in HU11.out i hil2 n2 false (fun W hW => by rw [HN2.out, Option.map_none]; exact (nUp_nil n2 W).mono fun e w' (hh : _ ∧ _) => ⟨hh.1, by rw [hh.2]; exact Below.refl _ _⟩)).mono ?_)
   rintro e w12 ⟨rfl, b12⟩
   have B12 := B11.trans (b12.mono B11.size)
   have HU12 := h_ (HU11.out.below b12)
   clear b12
   go_wp2_with fail
   (with_reducible refine (fStart_ok HU12.out i hil2 HN2.out (fun c hc => (HPS.out c hc).1) HOK.out).mono ?_)
   rintro e w13 ⟨rfl, b13⟩
   have B13 := B12.trans (b13.mono hBw)
   clear b13
   go_wp2_with fail
   go_ret
   exact ⟨rfl, B13⟩
end
end
end Go.Proofs.YtfopoijikdmiaaaGreatDoor
