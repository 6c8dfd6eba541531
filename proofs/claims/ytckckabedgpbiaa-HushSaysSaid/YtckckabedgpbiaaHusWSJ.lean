/- The walk of the law HushSays. -/
import Derived.Test.YtckckabedgpbiaaActsJ
import Derived.Test.YtckckabedgpbiaaArgsJ
set_option linter.unusedSimpArgs false
set_option linter.unusedVariables false
set_option maxRecDepth 4000
namespace Go.Proofs.Ytckckabedgpbiaa
open Go.ChangeShapes Go.WideShapes Go.ChangeAt Go.RowKit
theorem grow_hush (A M : Nat) (time : Int) (m : List HB) : GrowP fun w => HushT w A M time m := fun w w1 h hb => h.below hb h.lt h.ok.lt
def fndF (g : Nat → Bool) : Nat → Bool
 | 0 => false
 | k + 1 => fndF g k || g k
theorem fndF_true {g : Nat → Bool} {k j : Nat} (hj : j < k) (h : g j = true) : fndF g k = true := by
 induction k with
 | zero => omega
 | succ k ih =>
  rw [fndF]
  by_cases e : j = k
  ·
   subst e; rw [h, Bool.or_true]
  ·
   rw [ih (by omega), Bool.true_or]
def gaveB (f : ActD → List UInt8 × Vector UInt8 6 × Bool) (acts : List ActD) (v : Int) (ip : List UInt8) (who : Vector UInt8 6) (j : Nat) : Bool :=
 match acts[j]? with
 | some y => (f y).2.2 && y.v == v && (f y).1 == ip && (f y).2.1 == who
 | none => false
attribute [local irreducible] fndF gaveB
set_option maxRecDepth 20000 in
set_option maxHeartbeats 8000000 in
theorem hushSays_any (time : Int) (a : Option Addr) (cap : Nat) (acts : List ActD) (w : World) (h : ActsAt w a acts) :
  Calls Try.prog 3 #[.int .i64 time, .slice a acts.length cap] w fun e w' => e = .returned (.bool true) ∧ Below w.heap.size w w' := by
 obtain ⟨f, hann⟩ : ∃ f : ActD → List UInt8 × Vector UInt8 6 × Bool, ∀ x : ActD, x.body.length ≤ 10000 → AnnBoth x.dst x.src x.ty x.body (f x).1 (f x).2.1 (f x).2.2 := by
  have hex : ∀ x : ActD, ∃ y : List UInt8 × Vector UInt8 6 × Bool, x.body.length ≤ 10000 → AnnBoth x.dst x.src x.ty x.body y.1 y.2.1 y.2.2 := by
   intro x
   by_cases hx : x.body.length ≤ 10000
   ·
    obtain ⟨ip, mac, ok, hA⟩ := ann_both x.dst x.src x.ty x.body hx
    exact ⟨(ip, mac, ok), fun _ => hA⟩
   ·
    exact ⟨([], mac0, false), fun h => absurd h hx⟩
  exact ⟨fun x => Classical.choose (hex x), fun x => Classical.choose_spec (hex x)⟩
 have HANN := Lib.hid hann
 have hm := h.1
 have hm2 : (acts.length : Int) ≤ 9223372036854775807 := by unfold maxLen at hm; omega
 clear hann
 go_enter Try.func3, Try.ntmps3
 go_wp2_with fail
 (with_reducible refine (awake21_any _).mono ?_)
 rintro e w1 ⟨rfl, b1⟩
 have h1 := h.below b1
 go_wp2_with fail
 (with_reducible refine (few21_any a cap acts _ h1).mono ?_)
 rintro e w2 ⟨rfl, b2⟩
 have z1 := b1.size
 have z2 := b2.size
 have bb2 : Below w.heap.size w w2 := b1.trans (b2.mono (by omega))
 clear b1 b2 h1
 by_cases hfew : fewB acts = true
 case neg =>
  rw [Bool.eq_false_iff.2 hfew]
  go_wp2_with fail
  (with_reducible refine (awake21_any _).mono ?_)
  rintro e w3 ⟨rfl, b3⟩
  go_wp2_with fail
  go_ret
  exact ⟨rfl, bb2.trans (b3.mono (by omega))⟩
 have hsp := fewB_spec hfew
 rw [hfew]
 have HSP := Lib.hid hsp
 clear hsp hfew
 by_cases ht : time < 1 ∨ 1000000 < time
 ·
  go_wp2_with fail
  (with_reducible refine (hNew_bad time _ ht).mono ?_)
  rintro e w3 ⟨rfl, b3⟩
  go_wp2_with fail
  go_ret
  exact ⟨rfl, bb2.trans (b3.mono (by omega))⟩
 go_wp2_with fail
 (with_reducible refine (hNew_ok time _ (by omega) (by omega)).mono ?_)
 rintro e w3 ⟨rfl, b3, hT, z3⟩
 have bb3 := bb2.trans (b3.mono (by omega))
 obtain ⟨A, hA⟩ : ∃ x, w2.heap.size + 1 = x := ⟨_, rfl⟩
 obtain ⟨M, hM⟩ : ∃ x, w2.heap.size = x := ⟨_, rfl⟩
 rw [hA, hM] at hT
 rw [hA]
 have hAM : A ≠ M := by omega
 have hMw : w.heap.size ≤ M := by omega
 have hAw : w.heap.size ≤ A := by omega
 clear b3 bb2 hA hM z1 z2 z3
 go_wp2_with fail
 go_loopw [7] (fun i wr => ∃ (k : Nat) (m : List HB), k ≤ acts.length ∧ i = .int .i64 k ∧ HushT wr A M time m ∧ (∀ c ∈ m, ∃ (j : Nat) (x : ActD), j < k ∧ acts[j]? = some x ∧ x.v = c.v ∧ f x = (c.ip, c.mac, true)) ∧ Below w.heap.size w wr) (fun i _ => acts.length - (intOf i).toNat)
 case atStart => exact ⟨0, [], by omega, rfl, hT, (fun c hc => by cases hc), bb3⟩
 case round =>
  clear hT bb3
  obtain ⟨k, m, hk, rfl, hT, hinv, B1⟩ := hrel
  have HINV := Lib.hid hinv
  clear hinv
  by_cases hkn : k < acts.length
  ·
   have hkI : (k : Int) < (acts.length : Int) := by omega
   obtain ⟨x, hx⟩ : ∃ x, acts[k] = x := ⟨_, rfl⟩
   have hx? : acts[k]? = some x := by rw [List.getElem?_eq_getElem hkn, hx]
   have hxb : x.body.length ≤ 300 := HSP.out.2 x (by rw [← hx]; exact List.getElem_mem _)
   have hAx := HANN.out x (by omega)
   obtain ⟨b, off, rfl, hb, hrange⟩ := h.2 k x hx?
   have HX := Lib.hid (And.intro hx hx?)
   clear hx hx?
   obtain ⟨o, ho⟩ : ∃ o, off + k * 16 = o := ⟨_, rfl⟩
   rw [ho] at hrange
   have hv : ∀ W, blk W b = blk w b → W.cell? ⟨b, o + 1, none⟩ = some (.int .i64 x.v) := fun W hW => (act_run (hrange W hW)).v
   have hfr : ∀ W, blk W b = blk w b → (loadS 32 (.pointer (some ⟨b, o + 2, none⟩))).run Try.prog W = .ok (.agg (frameV x.dst x.src x.ty x.body).toArray) W := fun W hW => (act_run (hrange W hW)).f
   have hsr : ∀ W, blk W b = blk w b → (loadS 30 (.pointer (some ⟨b, o + 8, none⟩))).run Try.prog W = .ok (.agg (u8v x.src).toArray) W := fun W hW => (act_run (hrange W hW)).s
   have HLN := Lib.hid (fun (W : World) (hW : HushT W A M time m) => learn_round x (f x).1 (f x).2.1 (f x).2.2 W hW hAM hAx.prog)
   have hblk : blk wr b = blk w b := blk_below B1 hb
   have zr := B1.size
   have hbr : b < wr.heap.size := by omega
   clear hrange
   have two : (∀ W, HushT W A M time m → AnsC (some ⟨A, 0, none⟩) x.v x.dst x.src x.ty x.body W zeroFr false) ∨ ∃ ip ans who, foundH x.v ip m = (who, true) ∧ Asks x.dst x.src x.ty x.body ip ans := by
    rcases asks_any x.dst x.src x.ty x.body (by omega) with hn | ⟨ip, ans, hs⟩
    ·
     exact .inl fun W _ => hn W _ _
    ·
     cases hf : (foundH x.v ip m).2 with
     | false => exact .inl fun W hW => hs.none x.v hW (foundH_false hf)
     | true => exact .inr ⟨ip, ans, (foundH x.v ip m).1, by rw [← hf], hs⟩
   rcases two with hno | ⟨ip, ans, who, hfo, hs⟩
   ·
    have KA := Lib.hid hno
    unfold AnsC zeroFr at KA
    clear hno
    unfold frameV at *
    have hG : GrowP (fun w' => (blk w' b = blk w b ∧ b < w'.heap.size) ∧ HushT w' A M time m) := (grow_blk b (blk w b)).and (grow_hush A M time m)
    go_wp2_with fail
    refine wp_region_beginX [] (fun w' => (blk w' b = blk w b ∧ b < w'.heap.size) ∧ HushT w' A M time m) hG rfl (by simp only [Rws]; (repeat (first | exact trivial | refine ⟨(by first | assumption | (simp [go_sem, *]; done)), (by first | omega | (simp; done) | (simp; omega)), ?_⟩))) (⟨⟨hblk, hbr⟩, hT⟩) (fun hS => ?_)
    refine sp 0 hG hS ?_
    refine sp 1 hG hS ?_
    refine sp 2 hG hS ?_
    refine sp 3 hG hS ?_
    refine sp 4 hG hS ?_
    refine sp 5 hG hS ?_
    refine sp 6 hG hS ?_
    refine sp 7 hG hS ?_
    refine sp 8 hG hS ?_
    refine sp 9 hG hS ?_
    refine sp 10 hG hS ?_
    refine sc 11 (v := ?_) hG hS ?_ ?_
    rotate_left
    ·
     intro w' hS'
     obtain ⟨hS', hX'⟩ := hS'
     simp only [Rws] at hS'
     go_simp
     with_reducible refine (KA.out _ hX'.2).mono ?_
     rintro e w'' ⟨rfl, hb⟩
     exact ⟨_, rfl, by rfl, hb⟩
    refine sp 12 hG hS ?_
    refine sp 13 hG hS ?_
    refine sp 14 hG hS ?_
    refine wpAnyS_var (XS.grow hG) (i := 15) (k := 16) (zi := (zeros 12 (Value.int .u8 0) ++ [Value.int .i64 0, Value.string ⟨#[]⟩]).toArray) (cA := (zeros 12 (Value.int .u8 0) ++ [Value.int .i64 0, Value.string ⟨#[]⟩]).toArray) (by simp only [List.getElem?_toArray, List.getElem?_cons_succ, List.getElem?_cons_zero]; rfl) (by simp only [List.getElem?_toArray, List.getElem?_cons_succ, List.getElem?_cons_zero]; rfl) ⟨rfl, rfl, fun a w => by go_simp; (refine ⟨?_, ?_⟩ <;> rfl)⟩ (by kernel_rfl) (by kernel_rfl) rfl rfl (by simp [*]) (by simp) (fun A w1 hr => by
     simp only [Act.put, List.setIfInBounds_toArray, List.set_cons_zero, List.set_cons_succ, ptr]
     go_simp
     try rfl) hS (fun F y1 gF zF by1 rF hS => ?_)
    (try simp only [Act.put, List.setIfInBounds_toArray, List.set_cons_zero, List.set_cons_succ])
    simp only [ptr]
    refine sp 17 hG hS ?_
    refine wpAnyR_done (by kernel_rfl) (fun y2 by2 => ?_) _
    have zy1 : wr.heap.size ≤ y1.heap.size := by have := by1.size; exact this
    have zy2 := by2.size
    have hX2 := hG _ _ hS.2 by2
    replace hT := hX2.2
    replace hblk := hX2.1.1
    have rF := (row_below by2 zF).trans rF
    have B2 : Below w.heap.size w y2 := B1.trans ((below_step (Below.drew (Below.refl _ _)) by1).trans (by2.mono zy1) |>.mono (by omega))
    have gF' : wr.heap.size ≤ F := gF
    clear hS hX2 by1 by2 B1 KA
    go_wp2_with fail
    have hG := grow_blk b (blk w b)
    refine wp_region_beginX [] (fun w' => blk w' b = blk w b ∧ b < w'.heap.size) hG rfl (by simp only [Rws]; (repeat (first | exact trivial | refine ⟨(by first | assumption | (simp [go_sem, *]; done)), (by first | omega | (simp; done) | (simp; omega)), ?_⟩))) (⟨hblk, by have := (B2).size; omega⟩) (fun hS => ?_)
    refine sp 0 hG hS ?_
    refine sp 1 hG hS ?_
    refine sp 2 hG hS ?_
    refine sp 3 hG hS ?_
    refine sp 4 hG hS ?_
    refine sp 5 hG hS ?_
    refine sp 6 hG hS ?_
    refine sp 7 hG hS ?_
    refine sp 8 hG hS ?_
    refine sp 9 hG hS ?_
    refine sp 10 hG hS ?_
    refine wpAnyR_all (rs := [11]) (by kernel_rfl) (by simp) (XS.grow (grow_blk b (blk w b))) hS (fun x1 c1 hSW => ?_)
    intro i hi
    obtain rfl := List.mem_singleton.1 hi
    refine wpOp_step rfl (fun K hK => ?_)
    obtain ⟨hSW, hXW⟩ := hSW
    simp only [Rws] at hSW
    clear hi hS
    go_simp
    replace c1 := below_step (Below.drew (Below.refl _ _)) c1
    have zx1 := c1.size
    have hT1 := hT.below c1 hT.lt hT.ok.lt
    have B3 := (B2).trans (c1.mono (B2).size)
    have z3 := B3.size
    clear c1
    (with_reducible refine (HLN.out _ hT1).mono ?_)
    rintro e x2 ⟨⟨bo, rfl⟩, c2, m', hT2, hm'⟩
    have zx2 := c2.size
    have hblk2 : blk x2 b = blk w b := (c2.block b (by omega) (by omega)).trans hXW.1
    have B4 : Below w.heap.size w x2 := B3.trans ((c2.mono z3).below hMw)
    clear c2 hT1 hXW hSW B3
    refine hK _ _ ⟨⟨trivial, hblk2, by omega⟩, ?_⟩
    refine wpAnyR_done (by kernel_rfl) (fun x3 c3 => ?_) _
    have zx3 := c3.size
    have hT3 := hT2.below c3 hT2.lt hT2.ok.lt
    have B5 : Below w.heap.size w x3 := B4.trans (c3.mono B4.size)
    clear c3 B4 hT2 hblk2
    go_wp2_with fail
    go_roundw
    case rel =>
     refine ⟨k + 1, m', by omega, by simp, hT3, ?_, B5⟩
     intro c hc
     rcases hm' with rfl | ⟨hok, rfl⟩
     ·
      obtain ⟨j, y, hj, hy⟩ := HINV.out c hc
      exact ⟨j, y, by omega, hy⟩
     ·
      rcases mem_putH hc with rfl | hc
      ·
       exact ⟨k, x, by omega, HX.out.2, rfl, Prod.ext rfl (Prod.ext rfl hok)⟩
      ·
       obtain ⟨j, y, hj, hy⟩ := HINV.out c hc
       exact ⟨j, y, by omega, hy⟩
    case measure => simp [intOf]; omega
   ·
    have KA := Lib.hid (fun (W : World) (hW : HushT W A M time m) => hs.some x.v who hW hfo)
    unfold AnsC at KA
    obtain ⟨c0, hc0, cv, cip, cmac⟩ := foundH_true hfo
    obtain ⟨j0, y0, hj0, hy0, hyv, hyf⟩ := HINV.out c0 hc0
    have hay := HANN.out y0 (by have := HSP.out.2 y0 (List.mem_of_getElem? hy0); omega)
    rw [hyf] at hay
    have hal := hay.len rfl
    have hsaid := hs.said who (by rw [← cmac]; exact hal.2.2.1) (by rw [← cip]; exact hal.2.2.2)
    have KS := Lib.hid hsaid
    unfold AnnC at KS
    have hfound : fndF (gaveB f acts x.v ip who) k = true := by
     refine fndF_true hj0 ?_
     unfold gaveB
     rw [hy0]
     simp only [hyf, hyv, cv, cip, cmac, beq_self_eq_true, Bool.and_self]
    have HFO := Lib.hid hfound
    obtain ⟨bs, hbs⟩ : ∃ l, ans who = l := ⟨_, rfl⟩
    rw [hbs] at KA KS
    clear hfo hc0 hj0 hy0 hyv hyf hay hal hsaid hfound hs hbs cv cip cmac
    unfold frameV at *
    have hG : GrowP (fun w' => (blk w' b = blk w b ∧ b < w'.heap.size) ∧ HushT w' A M time m) := (grow_blk b (blk w b)).and (grow_hush A M time m)
    go_wp2_with fail
    refine wp_region_beginX [] (fun w' => (blk w' b = blk w b ∧ b < w'.heap.size) ∧ HushT w' A M time m) hG rfl (by simp only [Rws]; (repeat (first | exact trivial | refine ⟨(by first | assumption | (simp [go_sem, *]; done)), (by first | omega | (simp; done) | (simp; omega)), ?_⟩))) (⟨⟨hblk, hbr⟩, hT⟩) (fun hS => ?_)
    refine sp 0 hG hS ?_
    refine sp 1 hG hS ?_
    refine sp 2 hG hS ?_
    refine sp 3 hG hS ?_
    refine sp 4 hG hS ?_
    refine sp 5 hG hS ?_
    refine sp 6 hG hS ?_
    refine sp 7 hG hS ?_
    refine sp 8 hG hS ?_
    refine sp 9 hG hS ?_
    refine sp 10 hG hS ?_
    refine sc 11 (v := ?_) hG hS ?_ ?_
    rotate_left
    ·
     intro w' hS'
     obtain ⟨hS', hX'⟩ := hS'
     simp only [Rws] at hS'
     go_simp
     with_reducible refine (KA.out _ hX'.2).mono ?_
     rintro e w'' ⟨rfl, hb⟩
     exact ⟨_, rfl, by rfl, hb⟩
    refine sp 12 hG hS ?_
    refine sp 13 hG hS ?_
    refine sp 14 hG hS ?_
    refine wpAnyS_var (XS.grow hG) (i := 15) (k := 16) (zi := (zeros 12 (Value.int .u8 0) ++ [Value.int .i64 0, Value.string ⟨#[]⟩]).toArray) (cA := (u8v x.src ++ (u8v who ++ [Value.int .i64 x.ty, Value.string ⟨bs.toArray⟩])).toArray) (by simp only [List.getElem?_toArray, List.getElem?_cons_succ, List.getElem?_cons_zero]; rfl) (by simp only [List.getElem?_toArray, List.getElem?_cons_succ, List.getElem?_cons_zero]; rfl) ⟨rfl, rfl, fun a w => by go_simp; (refine ⟨?_, ?_⟩ <;> rfl)⟩ (by kernel_rfl) (by kernel_rfl) rfl rfl (by simp [*]) (by simp) (fun A w1 hr => by
     simp only [Act.put, List.setIfInBounds_toArray, List.set_cons_zero, List.set_cons_succ, ptr]
     go_simp
     try rfl) hS (fun F y1 gF zF by1 rF hS => ?_)
    (try simp only [Act.put, List.setIfInBounds_toArray, List.set_cons_zero, List.set_cons_succ])
    simp only [ptr]
    refine sp 17 hG hS ?_
    refine wpAnyR_done (by kernel_rfl) (fun y2 by2 => ?_) _
    have zy1 : wr.heap.size ≤ y1.heap.size := by have := by1.size; exact this
    have zy2 := by2.size
    have hX2 := hG _ _ hS.2 by2
    replace hT := hX2.2
    replace hblk := hX2.1.1
    have rF := (row_below by2 zF).trans rF
    have B2 : Below w.heap.size w y2 := B1.trans ((below_step (Below.drew (Below.refl _ _)) by1).trans (by2.mono zy1) |>.mono (by omega))
    have gF' : wr.heap.size ≤ F := gF
    clear hS hX2 by1 by2 B1 KA
    go_wp2_with fail
    (with_reducible refine (KS.out _).mono ?_)
    rintro e y3 ⟨rfl, b3⟩
    have zy3 := b3.size
    have zFy : F < y2.heap.size := by omega
    have rF3 := (row_below b3 zFy).trans rF
    have hT3 := hT.below b3 hT.lt hT.ok.lt
    have hblk3 := (blk_below b3 (by omega)).trans hblk
    have B3 := B2.trans (b3.mono B2.size)
    obtain ⟨y4, hy4⟩ : ∃ v, y3.alloc (.cells (Value.string ⟨ip.toArray⟩ :: u8v who).toArray 38) = v := ⟨_, rfl⟩
    have b4 : Below y3.heap.size y3 y4 := by rw [← hy4]; exact Below.alloc (Below.refl _ _) (Nat.le_refl _) _
    have rB4 : row y4 y3.heap.size = (Value.string ⟨ip.toArray⟩ :: u8v who).toArray := by rw [← hy4]; exact row_alloc_at _ _ _ rfl
    have zy4 : y4.heap.size = y3.heap.size + 1 := by rw [← hy4]; exact alloc_sizeW _ _
    have rF4 := (row_below b4 (by omega)).trans rF3
    have hT4 := hT3.below b4 hT3.lt hT3.ok.lt
    have B4 := B3.trans (b4.mono B3.size)
    go_wp2_with fail
    clear hy4 b3 b4 rF rF3 hT hT3 hblk hblk3 B2 B3
    obtain ⟨G, hGd⟩ : ∃ v, y3.heap.size = v := ⟨_, rfl⟩
    try rw [hGd]
    rw [hGd] at rB4 zy4
    go_loopw [12, 13] (fun fo i wq => ∃ j : Nat, j ≤ k ∧ i = .int .i64 j ∧ fo = .bool (fndF (gaveB f acts x.v ip who) j) ∧ row wq F = (u8v x.src ++ (u8v who ++ [Value.int .i64 x.ty, Value.string ⟨bs.toArray⟩])).toArray ∧ row wq G = (Value.string ⟨ip.toArray⟩ :: u8v who).toArray ∧ HushT wq A M time m ∧ Below w.heap.size w wq ∧ F < wq.heap.size ∧ G < wq.heap.size) (fun _ i _ => k - (intOf i).toNat)
    case atStart => exact ⟨0, by omega, rfl, by rw [fndF], rF4, rB4, hT4, B4, by omega, by omega⟩
    case round =>
     clear rF4 rB4 hT4 B4 zy4
     obtain ⟨j, hj, rfl, rfl, rF, rB, hT, BQ, zF', zG'⟩ := hrel
     have hblk : blk wr b = blk w b := blk_below BQ hb
     by_cases hjk : j < k
     ·
      have hjI : (j : Int) < (k : Int) := by omega
      obtain ⟨y, hy⟩ : ∃ y, acts[j] = y := ⟨_, rfl⟩
      have hy? : acts[j]? = some y := by rw [List.getElem?_eq_getElem (by omega), hy]
      have hyb : y.body.length ≤ 300 := HSP.out.2 y (by rw [← hy]; exact List.getElem_mem _)
      have hAy := (HANN.out y (by omega)).ref
      obtain ⟨ip', mac', ok', hfy⟩ : ∃ p q r, f y = (p, q, r) := ⟨_, _, _, rfl⟩
      rw [hfy] at hAy
      have hgv : gaveB f acts x.v ip who j = (ok' && y.v == x.v && ip' == ip && mac' == who) := by
       unfold gaveB
       rw [hy?]
       simp only [hfy]
      have HGV := Lib.hid hgv
      unfold RAnnC frameV at hAy
      have KR := Lib.hid hAy
      obtain ⟨b', off', e', hb', hrange'⟩ := h.2 j y hy?
      obtain ⟨rfl, rfl⟩ : b' = b ∧ off' = off := by
       injection e' with e'
       injection e' with e1 e2
       exact ⟨e1.symm, e2.symm⟩
      obtain ⟨o', ho'⟩ : ∃ o', off' + j * 16 = o' := ⟨_, rfl⟩
      rw [ho'] at hrange'
      have hv' : ∀ W, blk W b' = blk w b' → W.cell? ⟨b', o' + 1, none⟩ = some (.int .i64 y.v) := fun W hW => (act_run (hrange' W hW)).v
      have hfr' : ∀ W, blk W b' = blk w b' → (loadS 32 (.pointer (some ⟨b', o' + 2, none⟩))).run Try.prog W = .ok (.agg (u8v y.dst ++ (u8v y.src ++ [Value.int .i64 y.ty, Value.string ⟨y.body.toArray⟩])).toArray) W := fun W hW => (act_run (hrange' W hW)).f
      clear hrange' hgv hAy hfy hy hy? e'
      go_wp2_with fail
      (with_reducible refine (KR.out _).mono ?_)
      rintro e q1 ⟨rfl, c1⟩
      have zq1 := c1.size
      obtain ⟨q2, hq2⟩ : ∃ v, q1.alloc (.cells (u8v mac').toArray 30) = v := ⟨_, rfl⟩
      have rM : row q2 q1.heap.size = (u8v mac').toArray := by rw [← hq2]; exact row_alloc_at _ _ _ rfl
      have zq2 : q2.heap.size = q1.heap.size + 1 := by rw [← hq2]; exact alloc_sizeW _ _
      have c2 : Below wr.heap.size wr q2 := by rw [← hq2]; exact Below.alloc c1 (by omega) _
      have rF2 := (row_below c2 (by omega)).trans rF
      have rB2 := (row_below c2 (by omega)).trans rB
      have hT2 := hT.below c2 hT.lt hT.ok.lt
      have hblk2 : blk q2 b' = blk w b' := (blk_below c2 (by have := BQ.size; omega)).trans hblk
      have B2q : Below w.heap.size w q2 := BQ.trans (c2.mono BQ.size)
      have zF2 : F < q2.heap.size := by omega
      have zG2 : G < q2.heap.size := by omega
      obtain ⟨fj, hfj⟩ : ∃ v, fndF (gaveB f acts x.v ip who) j = v := ⟨_, rfl⟩
      have HJ := Lib.hid hfj
      rw [hfj]
      clear hfj c1 rF rB hT hblk BQ
      go_wp2_with fail
      clear hq2
      cases fj with
      | true =>
       go_wp2_with fail
       go_region
       all_goals
        go_wp2_with fail
        go_roundw
        case rel => exact ⟨j + 1, by omega, by simp, congrArg Value.bool (by rw [fndF, HJ.out, HGV.out]; simp [*]), rF2, rB2, hT2.below (Below.drew (Below.refl _ _)) hT2.lt hT2.ok.lt, Below.drew B2q, zF2, zG2⟩
        case measure => simp [intOf]; omega
      | false =>
       cases ok' with
       | false =>
        go_wp2_with fail
        go_region
        all_goals
         go_wp2_with fail
         go_roundw
         case rel => exact ⟨j + 1, by omega, by simp, congrArg Value.bool (by rw [fndF, HJ.out, HGV.out]; simp [*]), rF2, rB2, hT2.below (Below.drew (Below.refl _ _)) hT2.lt hT2.ok.lt, Below.drew B2q, zF2, zG2⟩
         case measure => simp [intOf]; omega
       | true =>
        by_cases e1 : (y.v == x.v) = true
        ·
         by_cases e2 : (ip' == ip) = true
         ·
          by_cases e3 : (mac' == who) = true
          ·
           skip
           go_wp2_with fail
           go_region
           all_goals
            go_wp2_with fail
            go_roundw
            case rel => exact ⟨j + 1, by omega, by simp, congrArg Value.bool (by rw [fndF, HJ.out, HGV.out]; simp [*]), rF2, rB2, hT2.below (Below.drew (Below.refl _ _)) hT2.lt hT2.ok.lt, Below.drew B2q, zF2, zG2⟩
            case measure => simp [intOf]; omega
          ·
           have e3 := Bool.eq_false_iff.2 e3
           go_wp2_with fail
           go_region
           all_goals
            go_wp2_with fail
            go_roundw
            case rel => exact ⟨j + 1, by omega, by simp, congrArg Value.bool (by rw [fndF, HJ.out, HGV.out]; simp [*]), rF2, rB2, hT2.below (Below.drew (Below.refl _ _)) hT2.lt hT2.ok.lt, Below.drew B2q, zF2, zG2⟩
            case measure => simp [intOf]; omega
         ·
          have e2 := Bool.eq_false_iff.2 e2
          go_wp2_with fail
          go_region
          all_goals
           go_wp2_with fail
           go_roundw
           case rel => exact ⟨j + 1, by omega, by simp, congrArg Value.bool (by rw [fndF, HJ.out, HGV.out]; simp [*]), rF2, rB2, hT2.below (Below.drew (Below.refl _ _)) hT2.lt hT2.ok.lt, Below.drew B2q, zF2, zG2⟩
           case measure => simp [intOf]; omega
        ·
         have e1 := Bool.eq_false_iff.2 e1
         go_wp2_with fail
         go_region
         all_goals
          go_wp2_with fail
          go_roundw
          case rel => exact ⟨j + 1, by omega, by simp, congrArg Value.bool (by rw [fndF, HJ.out, HGV.out]; simp [*]), rF2, rB2, hT2.below (Below.drew (Below.refl _ _)) hT2.lt hT2.ok.lt, Below.drew B2q, zF2, zG2⟩
          case measure => simp [intOf]; omega
     ·
      obtain rfl : j = k := by omega
      rw [HFO.out]
      have hjI : ¬ (j : Int) < (j : Int) := by omega
      have hjn : (j : Int) < (acts.length : Int) := by omega
      go_wp2_with fail
      go_region
      have hTd := hT.below (Below.drew (Below.refl _ _)) hT.lt hT.ok.lt
      have hblkd : blk wr.drew b = blk w b := hblk
      have BQd := Below.drew BQ
      clear hT hblk BQ rF rB
      have hT := hTd
      have hblk := hblkd
      clear hTd hblkd
      go_wp2_with fail
      have hG := grow_blk b (blk w b)
      refine wp_region_beginX [] (fun w' => blk w' b = blk w b ∧ b < w'.heap.size) hG rfl (by simp only [Rws]; (repeat (first | exact trivial | refine ⟨(by first | assumption | (simp [go_sem, *]; done)), (by first | omega | (simp; done) | (simp; omega)), ?_⟩))) (⟨hblk, by have := (BQd).size; omega⟩) (fun hS => ?_)
      refine sp 0 hG hS ?_
      refine sp 1 hG hS ?_
      refine sp 2 hG hS ?_
      refine sp 3 hG hS ?_
      refine sp 4 hG hS ?_
      refine sp 5 hG hS ?_
      refine sp 6 hG hS ?_
      refine sp 7 hG hS ?_
      refine sp 8 hG hS ?_
      refine sp 9 hG hS ?_
      refine sp 10 hG hS ?_
      refine wpAnyR_all (rs := [11]) (by kernel_rfl) (by simp) (XS.grow (grow_blk b (blk w b))) hS (fun x1 c1 hSW => ?_)
      intro i hi
      obtain rfl := List.mem_singleton.1 hi
      refine wpOp_step rfl (fun K hK => ?_)
      obtain ⟨hSW, hXW⟩ := hSW
      simp only [Rws] at hSW
      clear hi hS
      go_simp
      replace c1 := below_step (Below.drew (Below.refl _ _)) c1
      have zx1 := c1.size
      have hT1 := hT.below c1 hT.lt hT.ok.lt
      have B3 := (BQd).trans (c1.mono (BQd).size)
      have z3 := B3.size
      clear c1
      (with_reducible refine (HLN.out _ hT1).mono ?_)
      rintro e x2 ⟨⟨bo, rfl⟩, c2, m', hT2, hm'⟩
      have zx2 := c2.size
      have hblk2 : blk x2 b = blk w b := (c2.block b (by omega) (by omega)).trans hXW.1
      have B4 : Below w.heap.size w x2 := B3.trans ((c2.mono z3).below hMw)
      clear c2 hT1 hXW hSW B3
      refine hK _ _ ⟨⟨trivial, hblk2, by omega⟩, ?_⟩
      refine wpAnyR_done (by kernel_rfl) (fun x3 c3 => ?_) _
      have zx3 := c3.size
      have hT3 := hT2.below c3 hT2.lt hT2.ok.lt
      have B5 : Below w.heap.size w x3 := B4.trans (c3.mono B4.size)
      clear c3 B4 hT2 hblk2
      go_wp2_with fail
      go_roundw
      case rel =>
       refine ⟨j + 1, m', by omega, by simp, hT3, ?_, B5⟩
       intro c hc
       rcases hm' with rfl | ⟨hok, rfl⟩
       ·
        obtain ⟨j, y, hj, hy⟩ := HINV.out c hc
        exact ⟨j, y, by omega, hy⟩
       ·
        rcases mem_putH hc with rfl | hc
        ·
         exact ⟨j, x, by omega, HX.out.2, rfl, Prod.ext rfl (Prod.ext rfl hok)⟩
        ·
         obtain ⟨j, y, hj, hy⟩ := HINV.out c hc
         exact ⟨j, y, by omega, hy⟩
      case measure => simp [intOf]; omega
  ·
   obtain rfl : k = acts.length := by omega
   have hkI : ¬ (acts.length : Int) < (acts.length : Int) := by omega
   go_wp2_with fail
   go_ret
   exact ⟨rfl, B1⟩
theorem hushSays_walk (W : World) (base : Nat) (args : Array Value) (hlen : args.size = Try.f3.params.size) (hval : ∀ (j : Nat) t v, Try.f3.params[j]? = some t → args[j]? = some v → Value.okWide Try.prog W .any base t v)
  (hread : ∀ (j : Nat) t v, Try.f3.params.toList[j]? = some t → args.toList[j]? = some v → Reads Try.prog W t v) :
  Calls Try.prog 3 args W fun e W' => e = .returned (.bool true) ∧ Below W.heap.size W W' := by
 obtain ⟨l⟩ := args
 match l, hlen with
 | [v0, v1], _ =>
 obtain ⟨n, rfl, _⟩ := open_intW Try.underlying3 (hval 0 3 v0 rfl rfl)
 obtain ⟨l, hl, hg⟩ := open_slW Try.underlying22 good_act (by decide) (hval 1 22 v1 rfl rfl) (hread 1 22 v1 rfl rfl)
 obtain ⟨acts, rfl⟩ := acts_of l hg
 obtain ⟨a, cap, rfl, hm, hsl⟩ := sl_open hl
 rw [List.length_map] at hm ⊢
 exact hushSays_any n a cap acts W ⟨hm, fun i x hx => hsl i (actC x) (by rw [List.getElem?_map, hx]; rfl)⟩
end Go.Proofs.Ytckckabedgpbiaa
