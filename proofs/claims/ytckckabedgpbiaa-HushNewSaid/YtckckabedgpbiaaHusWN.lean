/- The walk of the law HushNew. -/
import Derived.Test.YtckckabedgpbiaaHusW
import Derived.Test.YtckckabedgpbiaaSlx
set_option linter.unusedSimpArgs false
set_option linter.unusedVariables false
set_option maxRecDepth 4000
namespace Go.Proofs.Ytckckabedgpbiaa
open Go.ChangeShapes Go.WideShapes Go.ChangeAt Go.RowKit
theorem good_mac : GoodT Try.prog 30 (leaves 6 (.int .u8)) :=
  good_array (good_int Try.underlying5 (by kernel_rfl)) Try.underlying30 (by kernel_rfl)
theorem macs_of : ∀ (l : List (List Value)), (∀ y ∈ l, goods (leaves 6 (.int .u8)) y) → ∃ macs : List (Vector UInt8 6), l = macs.map fun m => u8v m
  | [], _ => ⟨[], rfl⟩
  | y :: l, h => by
    obtain ⟨ms, hm⟩ := macs_of l fun z hz => h z (by simp [hz])
    have h1 := h y (by simp)
    have h2 : goods (leaves 6 (.int .u8) ++ []) y := by simpa using h1
    obtain ⟨m, r, e1, hr⟩ := goods_u8 h2
    have e2 := goods_nil hr
    exact ⟨m :: ms, by rw [hm, e1, e2]; simp⟩
theorem and_rem2 (b : UInt8) : (b.toNat : Int) % 2 = ((b.toNat % 2 : Nat) : Int) := by omega
/-- the table: the last station, if any -/
def tabN (ip : List UInt8) (last : Vector UInt8 6) (some_ : Bool) : List HB := if some_ then [⟨1, ip, last, 0⟩] else []
theorem tabN_put (ip : List UInt8) (last mac : Vector UInt8 6) (s : Bool) : putH ⟨1, ip, mac, 0⟩ (tabN ip last s) = tabN ip mac true := by
  cases s
  · rfl
  · simp [tabN, putH, HB.is]
theorem tabN_found (ip : List UInt8) (last : Vector UInt8 6) (s : Bool) : foundH 1 ip (tabN ip last s) = if s then (last, true) else (mac0, false) := by
  cases s
  · rfl
  · simp [tabN, foundH, findH, HB.is]
theorem tabN_len (ip : List UInt8) (last : Vector UInt8 6) (s : Bool) : (tabN ip last s).length ≤ 1 := by
  cases s <;> simp [tabN]
attribute [local irreducible] askB
set_option maxRecDepth 20000 in
set_option maxHeartbeats 4000000 in
theorem hushNew_any (a : Option Addr) (cap : Nat) (macs : List (Vector UInt8 6)) (ip mine : Vector UInt8 4) (w : World) (hm : macs.length ≤ maxLen)
    (hsl : ∀ (i : Nat) (x : List Value), (macs.map fun m => u8v m)[i]? = some x → ∃ b off, a = some ⟨b, off, none⟩ ∧ b < w.heap.size ∧ ∀ W, blk W b = blk w b → W.rangeAt b (off + i * 6) x) :
    Calls Try.prog 4 #[.slice a macs.length cap, .agg (u8v ip).toArray, .agg (u8v mine).toArray] w fun e w' => e = .returned (.bool true) ∧ Below w.heap.size w w' := by
  go_enter Try.func4, Try.ntmps4
  go_wp2_with fail
  (with_reducible refine (awake21_any _).mono ?_)
  rintro e w1 ⟨rfl, b1⟩
  have z1 := b1.size
  simp at z1
  have rI : row w1 w.heap.size = (u8v ip).toArray := by rw [row_below b1 (by simp; try omega)]; simp [go_sem]
  have rN : row w1 (w.heap.size + 1) = (u8v mine).toArray := by rw [row_below b1 (by simp; try omega)]; simp [go_sem]
  have B1 : Below w.heap.size w w1 := Below.trans (by (repeat (first | exact Below.refl _ _ | refine Below.alloc ?_ (by first | (simp; done) | (simp; omega) | omega) _ | refine Below.drew ?_ | refine Below.setRow ?_ (by first | (simp; done) | (simp; omega) | omega) _ | refine Below.setCell ?_ (by first | (simp; done) | (simp; omega) | omega) _))) (b1.mono (by simp; try omega))
  clear b1
  have fin : ∀ w2 : World, True := fun _ => trivial
  by_cases h0 : 50 < macs.length
  · have h0I : (50 : Int) < (macs.length : Int) := by omega
    go_wp2_with fail
    (with_reducible refine (awake21_any _).mono ?_)
    rintro e w2 ⟨rfl, b2⟩
    go_wp2_with fail
    go_ret
    exact ⟨rfl, B1.trans (b2.mono (by omega))⟩
  have h0I : ¬ (50 : Int) < (macs.length : Int) := by omega
  by_cases h1 : (ip == mine) = true
  · go_wp2_with fail
    (with_reducible refine (awake21_any _).mono ?_)
    rintro e w2 ⟨rfl, b2⟩
    go_wp2_with fail
    go_ret
    exact ⟨rfl, B1.trans (b2.mono (by omega))⟩
  have h1f : (ip == mine) = false := by simpa using h1
  by_cases h2 : (ip == Vector.replicate 4 0) = true
  · go_wp2_with fail
    (with_reducible refine (awake21_any _).mono ?_)
    rintro e w2 ⟨rfl, b2⟩
    go_wp2_with fail
    go_ret
    exact ⟨rfl, B1.trans (b2.mono (by omega))⟩
  have h2f : (ip == Vector.replicate 4 0) = false := by simpa using h2
  clear h1 h2 fin
  go_wp2_with fail
  (with_reducible refine (hNew_ok 9 _ (by decide) (by decide)).mono ?_)
  rintro e x0 ⟨rfl, b, hT, zx0⟩
  replace rI := (row_below b (by omega)).trans rI
  replace rN := (row_below b (by omega)).trans rN
  replace B1 := B1.trans (b.mono (by omega))
  clear b
  obtain ⟨A, hA⟩ : ∃ x, w1.heap.size + 1 = x := ⟨_, rfl⟩
  obtain ⟨M, hM⟩ : ∃ x, w1.heap.size = x := ⟨_, rfl⟩
  rw [hA, hM] at hT
  rw [hA]
  have hAM : A ≠ M := by omega
  go_wp2_with fail
  obtain ⟨x1, hx1⟩ : ∃ x, x0.alloc (.cells (u8v mac0).toArray 30) = x := ⟨_, rfl⟩
  have rL : row x1 x0.heap.size = (u8v mac0).toArray := by rw [← hx1]; exact row_alloc_at _ _ _ rfl
  have zx1 : x1.heap.size = x0.heap.size + 1 := by rw [← hx1]; exact alloc_sizeW _ _
  have b : Below x0.heap.size x0 x1 := by rw [← hx1]; exact Below.alloc (Below.refl _ _) (Nat.le_refl _) _
  replace rI := (row_below b (by omega)).trans rI
  replace rN := (row_below b (by omega)).trans rN
  replace B1 := B1.trans (b.mono (by omega))
  replace hT := hT.below b (by omega) (by omega)
  clear b
  rw [hx1]
  clear hx1
  obtain ⟨L, hL⟩ : ∃ x, M + 2 = x := ⟨_, rfl⟩
  have hL0 : x0.heap.size = L := by omega
  rw [hL0] at rL
  rw [hL]
  have hQ := fun w => question_b m2 mine ip w
  have hipz : (ip != Vector.replicate 4 0) = true := by rw [bne, h2f]; rfl
  go_loopw [10, 11] (fun s i wr => ∃ (k : Nat) (last : Vector UInt8 6) (sm : Bool), k ≤ macs.length ∧ i = .int .i64 k ∧ s = .bool sm ∧ (sm = true → grp last = false) ∧ row wr L = (u8v last).toArray ∧ row wr w.heap.size = (u8v ip).toArray ∧ row wr (w.heap.size + 1) = (u8v mine).toArray ∧ HushT wr A M 9 (tabN ip.toList last sm) ∧ Below w.heap.size w wr ∧ x1.heap.size ≤ wr.heap.size) (fun _ i _ => macs.length - (intOf i).toNat)
  case atStart => exact ⟨0, mac0, false, by omega, rfl, rfl, (fun h => by cases h), rL, rI, rN, hT, B1, Nat.le_refl _⟩
  case round =>
    clear rL rI rN hT B1
    obtain ⟨k, last, sm, hk, rfl, rfl, hsg, rL, rI, rN, hT, B1, zr⟩ := hrel
    by_cases hkn : k < macs.length
    · have hkI : (k : Int) < (macs.length : Int) := by omega
      obtain ⟨mac, hmac⟩ : ∃ m, macs[k] = m := ⟨_, rfl⟩
      obtain ⟨b, off, rfl, hb, hrange⟩ := hsl k (u8v mac) (by rw [List.getElem?_map, List.getElem?_eq_getElem hkn, hmac]; rfl)
      obtain ⟨o, ho⟩ : ∃ o, off + k * 6 = o := ⟨_, rfl⟩
      rw [ho] at hrange
      have hload : ∀ W, blk W b = blk w b → (loadS 30 (.pointer (some ⟨b, o, none⟩))).run Try.prog W = .ok (.agg (u8v mac).toArray) W := fun W hW => run_loadS_at (hrange W hW) (by simp)
      have hblk : blk wr b = blk w b := blk_below B1 hb
      have hbr : b < wr.heap.size := by have := B1.size; omega
      clear hrange hmac
      by_cases hg : grp mac = true
      · have HL := Lib.hid (fun w => hLearn_no allOnes mac 2054 (askB mac ip mine) [] mac0 w (some ⟨A, 0, none⟩) 1 (ask_ann_no mac ip mine (.inr hg)))
        have HQ := Lib.hid (fun w => question_b mac ip mine w)
        obtain ⟨bl, hbl⟩ : ∃ x, askB mac ip mine = x := ⟨_, rfl⟩
        rw [hbl] at HL HQ
        clear hbl hg
        unfold frameV at HL HQ
        go_wp2_with fail
        refine wp_region_beginX [(w.heap.size, (u8v ip).toArray), (w.heap.size + 1, (u8v mine).toArray)] (fun w' => blk w' b = blk w b ∧ b < w'.heap.size) (grow_blk b (blk w b)) rfl (by simp only [Rws]; (repeat (first | exact trivial | refine ⟨(by first | assumption | (simp [go_sem, *]; done)), (by first | omega | (simp; done) | (simp; omega)), ?_⟩))) (⟨hblk, hbr⟩) (fun hS => ?_)
        refine wpAnyR_take (i := 0) (v := ?_) (by simp only [List.getElem?_toArray, List.getElem?_cons_succ, List.getElem?_cons_zero]; rfl) (by kernel_rfl) (by kernel_rfl) (by kernel_rfl) (by first | exact fun _ _ _ h => h | exact fun _ _ _ h => by cases h.1) (XS.grow (grow_blk b (blk w b))) (Or.inl ⟨by rfl, ?_⟩) hS ?_
        rotate_left
        · intro w' hS'
          obtain ⟨hS', hX'⟩ := hS'
          simp only [Rws] at hS'
          go_simp
          refine ⟨?_, Below.refl _ _⟩
          rfl
        (try simp only [Act.put, List.setIfInBounds_toArray, List.set_cons_zero, List.set_cons_succ])
        refine wpAnyR_take (i := 1) (v := ?_) (by simp only [List.getElem?_toArray, List.getElem?_cons_succ, List.getElem?_cons_zero]; rfl) (by kernel_rfl) (by kernel_rfl) (by kernel_rfl) (by first | exact fun _ _ _ h => h | exact fun _ _ _ h => by cases h.1) (XS.grow (grow_blk b (blk w b))) (Or.inl ⟨by rfl, ?_⟩) hS ?_
        rotate_left
        · intro w' hS'
          obtain ⟨hS', hX'⟩ := hS'
          simp only [Rws] at hS'
          go_simp
          refine ⟨?_, Below.refl _ _⟩
          rfl
        (try simp only [Act.put, List.setIfInBounds_toArray, List.set_cons_zero, List.set_cons_succ])
        refine wpAnyR_take (i := 2) (v := ?_) (by simp only [List.getElem?_toArray, List.getElem?_cons_succ, List.getElem?_cons_zero]; rfl) (by kernel_rfl) (by kernel_rfl) (by kernel_rfl) (by first | exact fun _ _ _ h => h | exact fun _ _ _ h => by cases h.1) (XS.grow (grow_blk b (blk w b))) (Or.inl ⟨by rfl, ?_⟩) hS ?_
        rotate_left
        · intro w' hS'
          obtain ⟨hS', hX'⟩ := hS'
          simp only [Rws] at hS'
          go_simp
          refine ⟨?_, Below.refl _ _⟩
          rfl
        (try simp only [Act.put, List.setIfInBounds_toArray, List.set_cons_zero, List.set_cons_succ])
        refine wpAnyR_take (i := 3) (v := ?_) (by simp only [List.getElem?_toArray, List.getElem?_cons_succ, List.getElem?_cons_zero]; rfl) (by kernel_rfl) (by kernel_rfl) (by kernel_rfl) (by first | exact fun _ _ _ h => h | exact fun _ _ _ h => by cases h.1) (XS.grow (grow_blk b (blk w b))) (Or.inl ⟨by rfl, ?_⟩) hS ?_
        rotate_left
        · intro w' hS'
          obtain ⟨hS', hX'⟩ := hS'
          simp only [Rws] at hS'
          go_simp
          refine ⟨?_, Below.refl _ _⟩
          rfl
        (try simp only [Act.put, List.setIfInBounds_toArray, List.set_cons_zero, List.set_cons_succ])
        refine wpAnyR_take (i := 4) (v := ?_) (by simp only [List.getElem?_toArray, List.getElem?_cons_succ, List.getElem?_cons_zero]; rfl) (by kernel_rfl) (by kernel_rfl) (by kernel_rfl) (by first | exact fun _ _ _ h => h | exact fun _ _ _ h => by cases h.1) (XS.grow (grow_blk b (blk w b))) (Or.inl ⟨by rfl, ?_⟩) hS ?_
        rotate_left
        · intro w' hS'
          obtain ⟨hS', hX'⟩ := hS'
          simp only [Rws] at hS'
          go_simp
          refine ⟨?_, Below.refl _ _⟩
          rfl
        (try simp only [Act.put, List.setIfInBounds_toArray, List.set_cons_zero, List.set_cons_succ])
        refine wpAnyR_take (i := 5) (v := ?_) (by simp only [List.getElem?_toArray, List.getElem?_cons_succ, List.getElem?_cons_zero]; rfl) (by kernel_rfl) (by kernel_rfl) (by kernel_rfl) (by first | exact fun _ _ _ h => h | exact fun _ _ _ h => by cases h.1) (XS.grow (grow_blk b (blk w b))) (Or.inl ⟨by rfl, ?_⟩) hS ?_
        rotate_left
        · intro w' hS'
          obtain ⟨hS', hX'⟩ := hS'
          simp only [Rws] at hS'
          go_simp
          refine ⟨?_, Below.refl _ _⟩
          rfl
        (try simp only [Act.put, List.setIfInBounds_toArray, List.set_cons_zero, List.set_cons_succ])
        refine wpAnyR_take (i := 6) (v := ?_) (by simp only [List.getElem?_toArray, List.getElem?_cons_succ, List.getElem?_cons_zero]; rfl) (by kernel_rfl) (by kernel_rfl) (by kernel_rfl) (by first | exact fun _ _ _ h => h | exact fun _ _ _ h => by cases h.1) (XS.grow (grow_blk b (blk w b))) (Or.inl ⟨by rfl, ?_⟩) hS ?_
        rotate_left
        · intro w' hS'
          obtain ⟨hS', hX'⟩ := hS'
          simp only [Rws] at hS'
          go_simp
          refine ⟨?_, Below.refl _ _⟩
          rfl
        (try simp only [Act.put, List.setIfInBounds_toArray, List.set_cons_zero, List.set_cons_succ])
        refine wpAnyR_take (i := 7) (v := ?_) (by simp only [List.getElem?_toArray, List.getElem?_cons_succ, List.getElem?_cons_zero]; rfl) (by kernel_rfl) (by kernel_rfl) (by kernel_rfl) (by first | exact fun _ _ _ h => h | exact fun _ _ _ h => by cases h.1) (XS.grow (grow_blk b (blk w b))) (Or.inl ⟨by rfl, ?_⟩) hS ?_
        rotate_left
        · intro w' hS'
          obtain ⟨hS', hX'⟩ := hS'
          simp only [Rws] at hS'
          go_simp
          with_reducible refine (HQ.out _).mono ?_
          rintro e w'' ⟨rfl, hb⟩
          refine ⟨_, rfl, ?_, hb⟩
          rfl
        (try simp only [Act.put, List.setIfInBounds_toArray, List.set_cons_zero, List.set_cons_succ])
        refine wpAnyR_take (i := 8) (v := ?_) (by simp only [List.getElem?_toArray, List.getElem?_cons_succ, List.getElem?_cons_zero]; rfl) (by kernel_rfl) (by kernel_rfl) (by kernel_rfl) (by first | exact fun _ _ _ h => h | exact fun _ _ _ h => by cases h.1) (XS.grow (grow_blk b (blk w b))) (Or.inl ⟨by rfl, ?_⟩) hS ?_
        rotate_left
        · intro w' hS'
          obtain ⟨hS', hX'⟩ := hS'
          simp only [Rws] at hS'
          go_simp
          with_reducible refine (HL.out _).mono ?_
          rintro e w'' ⟨rfl, hb⟩
          refine ⟨_, rfl, ?_, hb⟩
          rfl
        (try simp only [Act.put, List.setIfInBounds_toArray, List.set_cons_zero, List.set_cons_succ])
        refine wpAnyR_done (by kernel_rfl) (fun y1 c1 => ?_) _
        replace c1 := below_step (Below.drew (Below.refl _ _)) c1
        have zy1 := c1.size
        replace rL := (row_below c1 (by omega)).trans rL
        replace rI := (row_below c1 (by omega)).trans rI
        replace rN := (row_below c1 (by omega)).trans rN
        replace hT := hT.below c1 (by omega) (by omega)
        replace B1 := B1.trans (c1.mono (by omega))
        clear c1 hS hblk
        go_wp2_with fail
        go_roundw
        case rel => exact ⟨k + 1, last, sm, by omega, rfl, rfl, hsg, rL, rI, rN, hT, B1, by omega⟩
        case measure => simp [intOf]; omega
      · have hgf : grp mac = false := by simpa using hg
        have HL := Lib.hid (fun (w : World) (h : HushT w A M 9 (tabN ip.toList last sm)) => hLearn_kept allOnes mac 2054 (askB mac ip mine) ip.toList mac w 1 h hAM (ask_ann mac ip mine hipz hgf) (.inr (by have := tabN_len ip.toList last sm; omega)))
        have HQ := Lib.hid (fun w => question_b mac ip mine w)
        obtain ⟨bl, hbl⟩ : ∃ x, askB mac ip mine = x := ⟨_, rfl⟩
        simp only [tabN_put] at HL
        rw [hbl] at HL HQ
        clear hbl hg
        unfold frameV at HL HQ
        go_wp2_with fail
        refine wp_region_beginX [(w.heap.size, (u8v ip).toArray), (w.heap.size + 1, (u8v mine).toArray)] (fun w' => blk w' b = blk w b ∧ b < w'.heap.size) (grow_blk b (blk w b)) rfl (by simp only [Rws]; (repeat (first | exact trivial | refine ⟨(by first | assumption | (simp [go_sem, *]; done)), (by first | omega | (simp; done) | (simp; omega)), ?_⟩))) (⟨hblk, hbr⟩) (fun hS => ?_)
        refine wpAnyR_take (i := 0) (v := ?_) (by simp only [List.getElem?_toArray, List.getElem?_cons_succ, List.getElem?_cons_zero]; rfl) (by kernel_rfl) (by kernel_rfl) (by kernel_rfl) (by first | exact fun _ _ _ h => h | exact fun _ _ _ h => by cases h.1) (XS.grow (grow_blk b (blk w b))) (Or.inl ⟨by rfl, ?_⟩) hS ?_
        rotate_left
        · intro w' hS'
          obtain ⟨hS', hX'⟩ := hS'
          simp only [Rws] at hS'
          go_simp
          refine ⟨?_, Below.refl _ _⟩
          rfl
        (try simp only [Act.put, List.setIfInBounds_toArray, List.set_cons_zero, List.set_cons_succ])
        refine wpAnyR_take (i := 1) (v := ?_) (by simp only [List.getElem?_toArray, List.getElem?_cons_succ, List.getElem?_cons_zero]; rfl) (by kernel_rfl) (by kernel_rfl) (by kernel_rfl) (by first | exact fun _ _ _ h => h | exact fun _ _ _ h => by cases h.1) (XS.grow (grow_blk b (blk w b))) (Or.inl ⟨by rfl, ?_⟩) hS ?_
        rotate_left
        · intro w' hS'
          obtain ⟨hS', hX'⟩ := hS'
          simp only [Rws] at hS'
          go_simp
          refine ⟨?_, Below.refl _ _⟩
          rfl
        (try simp only [Act.put, List.setIfInBounds_toArray, List.set_cons_zero, List.set_cons_succ])
        refine wpAnyR_take (i := 2) (v := ?_) (by simp only [List.getElem?_toArray, List.getElem?_cons_succ, List.getElem?_cons_zero]; rfl) (by kernel_rfl) (by kernel_rfl) (by kernel_rfl) (by first | exact fun _ _ _ h => h | exact fun _ _ _ h => by cases h.1) (XS.grow (grow_blk b (blk w b))) (Or.inl ⟨by rfl, ?_⟩) hS ?_
        rotate_left
        · intro w' hS'
          obtain ⟨hS', hX'⟩ := hS'
          simp only [Rws] at hS'
          go_simp
          refine ⟨?_, Below.refl _ _⟩
          rfl
        (try simp only [Act.put, List.setIfInBounds_toArray, List.set_cons_zero, List.set_cons_succ])
        refine wpAnyR_take (i := 3) (v := ?_) (by simp only [List.getElem?_toArray, List.getElem?_cons_succ, List.getElem?_cons_zero]; rfl) (by kernel_rfl) (by kernel_rfl) (by kernel_rfl) (by first | exact fun _ _ _ h => h | exact fun _ _ _ h => by cases h.1) (XS.grow (grow_blk b (blk w b))) (Or.inl ⟨by rfl, ?_⟩) hS ?_
        rotate_left
        · intro w' hS'
          obtain ⟨hS', hX'⟩ := hS'
          simp only [Rws] at hS'
          go_simp
          refine ⟨?_, Below.refl _ _⟩
          rfl
        (try simp only [Act.put, List.setIfInBounds_toArray, List.set_cons_zero, List.set_cons_succ])
        refine wpAnyR_take (i := 4) (v := ?_) (by simp only [List.getElem?_toArray, List.getElem?_cons_succ, List.getElem?_cons_zero]; rfl) (by kernel_rfl) (by kernel_rfl) (by kernel_rfl) (by first | exact fun _ _ _ h => h | exact fun _ _ _ h => by cases h.1) (XS.grow (grow_blk b (blk w b))) (Or.inl ⟨by rfl, ?_⟩) hS ?_
        rotate_left
        · intro w' hS'
          obtain ⟨hS', hX'⟩ := hS'
          simp only [Rws] at hS'
          go_simp
          refine ⟨?_, Below.refl _ _⟩
          rfl
        (try simp only [Act.put, List.setIfInBounds_toArray, List.set_cons_zero, List.set_cons_succ])
        refine wpAnyR_take (i := 5) (v := ?_) (by simp only [List.getElem?_toArray, List.getElem?_cons_succ, List.getElem?_cons_zero]; rfl) (by kernel_rfl) (by kernel_rfl) (by kernel_rfl) (by first | exact fun _ _ _ h => h | exact fun _ _ _ h => by cases h.1) (XS.grow (grow_blk b (blk w b))) (Or.inl ⟨by rfl, ?_⟩) hS ?_
        rotate_left
        · intro w' hS'
          obtain ⟨hS', hX'⟩ := hS'
          simp only [Rws] at hS'
          go_simp
          refine ⟨?_, Below.refl _ _⟩
          rfl
        (try simp only [Act.put, List.setIfInBounds_toArray, List.set_cons_zero, List.set_cons_succ])
        refine wpAnyR_take (i := 6) (v := ?_) (by simp only [List.getElem?_toArray, List.getElem?_cons_succ, List.getElem?_cons_zero]; rfl) (by kernel_rfl) (by kernel_rfl) (by kernel_rfl) (by first | exact fun _ _ _ h => h | exact fun _ _ _ h => by cases h.1) (XS.grow (grow_blk b (blk w b))) (Or.inl ⟨by rfl, ?_⟩) hS ?_
        rotate_left
        · intro w' hS'
          obtain ⟨hS', hX'⟩ := hS'
          simp only [Rws] at hS'
          go_simp
          refine ⟨?_, Below.refl _ _⟩
          rfl
        (try simp only [Act.put, List.setIfInBounds_toArray, List.set_cons_zero, List.set_cons_succ])
        refine wpAnyR_take (i := 7) (v := ?_) (by simp only [List.getElem?_toArray, List.getElem?_cons_succ, List.getElem?_cons_zero]; rfl) (by kernel_rfl) (by kernel_rfl) (by kernel_rfl) (by first | exact fun _ _ _ h => h | exact fun _ _ _ h => by cases h.1) (XS.grow (grow_blk b (blk w b))) (Or.inl ⟨by rfl, ?_⟩) hS ?_
        rotate_left
        · intro w' hS'
          obtain ⟨hS', hX'⟩ := hS'
          simp only [Rws] at hS'
          go_simp
          with_reducible refine (HQ.out _).mono ?_
          rintro e w'' ⟨rfl, hb⟩
          refine ⟨_, rfl, ?_, hb⟩
          rfl
        (try simp only [Act.put, List.setIfInBounds_toArray, List.set_cons_zero, List.set_cons_succ])
        refine wpAnyR_all (rs := [8]) (by kernel_rfl) (by simp) (XS.grow (grow_blk b (blk w b))) hS (fun y1 c1 hSW => ?_)
        intro i hi
        obtain rfl := List.mem_singleton.1 hi
        refine wpOp_step rfl (fun K hK => ?_)
        obtain ⟨hSW, hXW⟩ := hSW
        simp only [Rws] at hSW
        clear hi hS
        go_simp
        replace c1 := below_step (Below.drew (Below.refl _ _)) c1
        have zy1 := c1.size
        replace rL := (row_below c1 (by omega)).trans rL
        replace rI := (row_below c1 (by omega)).trans rI
        replace rN := (row_below c1 (by omega)).trans rN
        replace hT := hT.below c1 (by omega) (by omega)
        replace B1 := B1.trans (c1.mono (by omega))
        have hblk1 := (blk_below c1 hbr).trans hblk
        clear c1
        (with_reducible refine (HL.out _ hT).mono ?_)
        rintro e y2 ⟨rfl, c2, hT2⟩
        have zy2 := c2.size
        replace rL := (c2.row (by omega) (by omega)).trans rL
        replace rI := (c2.row (by omega) (by omega)).trans rI
        replace rN := (c2.row (by omega) (by omega)).trans rN
        replace B1 := B1.trans ((c2.mono (by omega)).below (by omega))
        have hblk2 : blk y2 b = blk w b := (c2.block b (by omega) (by omega)).trans hblk1
        clear c2 hT hblk1 hSW hXW
        refine hK _ _ ⟨⟨⟨rI, by omega, rN, by omega, trivial⟩, hblk2, by omega⟩, ?_⟩
        refine wpAnyR_done (by kernel_rfl) (fun y3 c3 => ?_) _
        have zy3 := c3.size
        replace rL := (row_below c3 (by omega)).trans rL
        replace rI := (row_below c3 (by omega)).trans rI
        replace rN := (row_below c3 (by omega)).trans rN
        replace hT2 := hT2.below c3 (by omega) (by omega)
        replace B1 := B1.trans (c3.mono (by omega))
        have hblk3 := (blk_below c3 (by omega)).trans hblk2
        clear c3 hblk2 hblk
        obtain ⟨y4, hy4⟩ : ∃ x, y3.setRow L (u8v mac).toArray = x := ⟨_, rfl⟩
        go_wp2_with fail
        replace rI : row y4 w.heap.size = (u8v ip).toArray := by rw [← hy4, row_setRow_other _ _ _ (by omega), rI]
        replace rN : row y4 (w.heap.size + 1) = (u8v mine).toArray := by rw [← hy4, row_setRow_other _ _ _ (by omega), rN]
        have rL4 : row y4 L = (u8v mac).toArray := by rw [← hy4]; exact row_setRow_same (by simp [rL]) (by simp [rL])
        have zy4 : y4.heap.size = y3.heap.size := by rw [← hy4, setRow_size]
        have B4 : Below w.heap.size w y4 := by rw [← hy4]; exact Below.setRow B1 (by omega) _
        have hT4 : HushT y4 A M 9 (tabN ip.toList mac true) := by
          rw [← hy4]
          exact ⟨by rw [row_setRow_other _ _ _ (by omega), hT2.row], mapOk_setRow _ _ _ hT2.ok, by rw [mapL_setRow _ _ _ hT2.ok, hT2.map]⟩
        clear hy4 B1 hT2 rL
        go_roundw
        case rel => exact ⟨k + 1, mac, true, by omega, rfl, rfl, (fun _ => hgf), rL4, rI, rN, hT4, B4, by omega⟩
        case measure => simp [intOf]; omega
    · obtain rfl : k = macs.length := by omega
      have hkI : ¬ (macs.length : Int) < (macs.length : Int) := by omega
      have HQ := Lib.hid (fun w => question_b m2 mine ip w)
      have HC := Lib.hid (fun (w : World) (h : HushT w A M 9 (tabN ip.toList last sm)) => hCount_any w h)
      obtain ⟨bq, hbq⟩ : ∃ x, askB m2 mine ip = x := ⟨_, rfl⟩
      cases sm with
      | false =>
        have HZ := Lib.hid (fun (w : World) (h : HushT w A M 9 (tabN ip.toList last false)) => ask_none 1 m2 mine ip w h h1f (by rw [tabN_found]; rfl))
        rw [hbq] at HQ HZ
        clear hbq hQ
        unfold AnsC zeroFr at HZ
        unfold frameV at HQ HZ
        rw [show (tabN ip.toList last false).length = 0 from rfl] at HC
        go_wp2_with fail
        (with_reducible refine (HQ.out _).mono ?_)
        rintro e v31 ⟨rfl, b⟩
        have zv31 := b.size
        replace rL := (row_below b (by omega)).trans rL
        replace hT := hT.below b (by omega) (by omega)
        replace B1 := B1.trans (b.mono (by omega))
        clear b
        go_wp2_with fail
        (with_reducible refine (HZ.out _ hT).mono ?_)
        rintro e v32 ⟨rfl, b⟩
        have zv32 := b.size
        replace rL := (row_below b (by omega)).trans rL
        replace hT := hT.below b (by omega) (by omega)
        replace B1 := B1.trans (b.mono (by omega))
        clear b
        go_wp2_with fail
        obtain ⟨v33, hv33⟩ : ∃ x, v32.alloc (.cells (zeros 12 (Value.int .u8 0) ++ [Value.int .i64 0, Value.string ⟨#[]⟩]).toArray 32) = x := ⟨_, rfl⟩
        have rX : row v33 v32.heap.size = (zeros 12 (Value.int .u8 0) ++ [Value.int .i64 0, Value.string ⟨#[]⟩]).toArray := by rw [← hv33]; exact row_alloc_at _ _ _ rfl
        have zv33 : v33.heap.size = v32.heap.size + 1 := by rw [← hv33]; exact alloc_sizeW _ _
        have b : Below v32.heap.size v32 v33 := by rw [← hv33]; exact Below.alloc (Below.refl _ _) (Nat.le_refl _) _
        replace rL := (row_below b (by omega)).trans rL
        replace hT := hT.below b (by omega) (by omega)
        replace B1 := B1.trans (b.mono (by omega))
        clear b
        rw [hv33]
        clear hv33
        (with_reducible refine (HC.out _ hT).mono ?_)
        rintro e v34 ⟨rfl, b⟩
        have zv34 := b.size
        replace rL := (row_below b (by omega)).trans rL
        replace hT := hT.below b (by omega) (by omega)
        replace B1 := B1.trans (b.mono (by omega))
        clear b
        go_wp2_with fail
        go_ret
        exact ⟨by simp, B1⟩
      | true =>
        have hg0 := hsg rfl
        have e0 : (u8v last)[0]'(by simp) = Value.int .u8 (last[0].toNat : Int) := by simp [u8v, u8s]
        have hr0 : last[0].toNat % 2 = 0 := by
          have : ¬ (last[0].toNat % 2 = 1) := by simpa [grp] using hg0
          omega
        have hr1 : (last[0].toNat : Int) % 2 = 0 := by omega
        have hr2 : (last[0].toNat : Int).tmod 2 = 0 := by rw [Int.tmod_eq_emod_of_nonneg (by omega)]; exact hr1
        have HS := Lib.hid (fun (w : World) (h : HushT w A M 9 (tabN ip.toList last true)) => ask_some 1 m2 mine ip w h h1f last (by rw [tabN_found]; rfl))
        obtain ⟨br, hbr⟩ : ∃ x, arpS 2 last m2 ip mine = x := ⟨_, rfl⟩
        rw [hbq] at HQ HS
        rw [hbr] at HS
        clear hbq hbr hQ hr0
        unfold AnsC at HS
        unfold frameV at HQ HS
        rw [show (tabN ip.toList last true).length = 1 from rfl] at HC
        go_wp2_with fail
        (with_reducible refine (HQ.out _).mono ?_)
        rintro e v61 ⟨rfl, b⟩
        have zv61 := b.size
        replace rL := (row_below b (by omega)).trans rL
        replace hT := hT.below b (by omega) (by omega)
        replace B1 := B1.trans (b.mono (by omega))
        clear b
        go_wp2_with fail
        (with_reducible refine (HS.out _ hT).mono ?_)
        rintro e v62 ⟨rfl, b⟩
        have zv62 := b.size
        replace rL := (row_below b (by omega)).trans rL
        replace hT := hT.below b (by omega) (by omega)
        replace B1 := B1.trans (b.mono (by omega))
        clear b
        obtain ⟨v63, hv63⟩ : ∃ x, v62.alloc (.cells (u8v m2 ++ (u8v last ++ [Value.int .i64 2054, Value.string ⟨br.toArray⟩])).toArray 32) = x := ⟨_, rfl⟩
        have rX : row v63 v62.heap.size = (u8v m2 ++ (u8v last ++ [Value.int .i64 2054, Value.string ⟨br.toArray⟩])).toArray := by rw [← hv63]; exact row_alloc_at _ _ _ rfl
        have zv63 : v63.heap.size = v62.heap.size + 1 := by rw [← hv63]; exact alloc_sizeW _ _
        have b : Below v62.heap.size v62 v63 := by rw [← hv63]; exact Below.alloc (Below.refl _ _) (Nat.le_refl _) _
        replace rL := (row_below b (by omega)).trans rL
        replace hT := hT.below b (by omega) (by omega)
        replace B1 := B1.trans (b.mono (by omega))
        clear b
        go_wp2_with fail
        clear hv63
        (with_reducible refine (HC.out _ hT).mono ?_)
        rintro e v64 ⟨rfl, b⟩
        have zv64 := b.size
        replace rL := (row_below b (by omega)).trans rL
        replace hT := hT.below b (by omega) (by omega)
        replace B1 := B1.trans (b.mono (by omega))
        clear b
        go_wp2_with fail
        go_ret
        exact ⟨by simp, B1⟩
theorem hushNew_walk (W : World) (base : Nat) (args : Array Value) (hlen : args.size = Try.f4.params.size) (hval : ∀ (j : Nat) t v, Try.f4.params[j]? = some t → args[j]? = some v → Value.okWide Try.prog W .any base t v)
    (hread : ∀ (j : Nat) t v, Try.f4.params.toList[j]? = some t → args.toList[j]? = some v → Reads Try.prog W t v) :
    Calls Try.prog 4 args W fun e W' => e = .returned (.bool true) ∧ Below W.heap.size W W' := by
  obtain ⟨l⟩ := args
  match l, hlen with
  | [v0, v1, v2], _ =>
  obtain ⟨l, hl, hg⟩ := open_slW Try.underlying45 good_mac (by decide) (hval 0 45 v0 rfl rfl) (hread 0 45 v0 rfl rfl)
  obtain ⟨macs, rfl⟩ := macs_of l hg
  obtain ⟨a, cap, rfl, hm, hsl⟩ := sl_open hl
  obtain ⟨ip, rfl⟩ := open_four (hval 1 46 v1 rfl rfl)
  obtain ⟨mine, rfl⟩ := open_four (hval 2 46 v2 rfl rfl)
  rw [List.length_map] at hm ⊢
  exact hushNew_any a cap macs ip mine W hm hsl
end Go.Proofs.Ytckckabedgpbiaa
