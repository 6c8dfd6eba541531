/- Texts of this proof, merged: RpE, RpF, RpG, RpH. -/
import Derived.Test.YtckckabedgpbiaaGreatLerJ
import Derived.Test.YtckckabedgpbiaaGreatLstJ
import Derived.Test.YtckckabedgpbiaaGreatJ32
import Derived.BigQuiet
import Derived.WalkSmall
import Derived.Test.YtckckabedgpbiaaGreatIntJ
set_option linter.unusedSimpArgs false
set_option linter.unusedVariables false
set_option maxRecDepth 4000
namespace Go.Proofs.YtckckabedgpbiaaGreat
section
open Go.RowKit
def entC (b : LB) : List Value := .int .i64 b.v :: (.int .i64 b.port :: (.int .i64 b.age :: (u8v b.mac ++ [.bool false])))
@[simp] theorem entC_length (b : LB) : (entC b).length = 10 := by simp [entC]
theorem entC_ones (b : LB) : ones (entC b) = true := by simp [entC]
theorem ent_load {W : World} {b o : Nat} {c : LB} (h : W.rangeAt b o (entC c)) : (loadS 118 (.pointer (some ⟨b, o, none⟩))).run Tryz.prog W = .ok (.agg (entC c).toArray) W := run_loadS_at h (by simp)
theorem entInfo : (Tryz.prog.info? 118).map (fun i => (i.zero.map (·.cells.size), i.size, i.bytes)) = some (some 10, 10, 32) := by kernel_rfl
theorem ent_of {w : World} {a : Option Addr} {m : List LB} (h : ElemsAt w a 10 (m.map entC)) {k : Nat} (hk : k < m.length) : ∃ b off, a = some ⟨b, off, none⟩ ∧ b < w.heap.size ∧ ∀ W, blk W b = blk w b → W.rangeAt b (off + k * 10) (entC m[k]) :=
 h.2 k (entC m[k]) (by rw [List.getElem?_map, List.getElem?_eq_getElem hk]; rfl)
theorem tickL_snoc (time : Int) (m : List LB) (c : LB) : tickL time (m ++ [c]) = tickL time m ++ (stepL time c).toList := by
 unfold tickL
 rw [List.filterMap_append]
 cases h : stepL time c with
 | none => simp [h]
 | some d => simp [h]
theorem tickL_length (time : Int) (m : List LB) : (tickL time m).length ≤ m.length := List.length_filterMap_le _ _
theorem dropL_snoc (p : Int) (m : List LB) (c : LB) : dropL p (m ++ [c]) = dropL p m ++ (if c.port == p then [] else [c]) := by
 unfold dropL
 rw [List.filter_append]
 congr 1
 cases h : c.port == p <;> simp [h]
theorem dropL_length (p : Int) (m : List LB) : (dropL p m).length ≤ m.length := List.length_filter_le _ _
set_option maxRecDepth 20000 in
set_option maxHeartbeats 4000000 in
theorem r20Older_any (time : Int) (m : List LB) (a : Option Addr) (cap : Nat) (w : World) (h : ElemsAt w a 10 (m.map entC)) (hm : m.length ≤ 1000) (hage : ∀ c ∈ m, 0 ≤ c.age ∧ c.age ≤ 1000000) :
  Calls Tryz.prog 25 #[.slice a m.length cap, .int .i64 time] w fun e w' => ∃ v', e = .returned v' ∧ OwnL w' w.heap.size 118 10 v' ((tickL time m).map entC) ∧ Below w.heap.size w w' := by
 have hmI : (m.length : Int) ≤ 1000 := by omega
 go_enter Tryz.func25, Tryz.ntmps25
 go_wp2_with fail
 go_loopw [5, 6] (fun v i wr => ∃ k : Nat, k ≤ m.length ∧ i = .int .i64 k ∧ OwnL wr w.heap.size 118 10 v ((tickL time (m.take k)).map entC) ∧ Below w.heap.size w wr) (fun _ i _ => m.length - (intOf i).toNat)
 case atStart => exact ⟨0, by omega, rfl, by rw [List.take_zero]; exact OwnL.nil _ _ _ _, Below.refl _ _⟩
 case round =>
  obtain ⟨k, hk, rfl, hown, hbel⟩ := hrel
  have hsz := hbel.size
  by_cases hlt : k < m.length
  ·
   have hkI : (k : Int) < (m.length : Int) := by omega
   obtain ⟨b, off, rfl, hb, hrange⟩ := ent_of h hlt
   obtain ⟨c, hc⟩ : ∃ c, m[k] = c := ⟨_, rfl⟩
   have hcm : c ∈ m := by rw [← hc]; exact List.getElem_mem _
   have hca := hage c hcm
   have htk : tickL time (m.take (k + 1)) = tickL time (m.take k) ++ (stepL time c).toList := by rw [List.take_succ_eq_append_getElem hlt, hc, tickL_snoc]
   have hlen : (tickL time (m.take k)).length ≤ 1000 := by have := tickL_length time (m.take k); rw [List.length_take] at this; omega
   have HTK := Lib.hid htk
   have HL10 := Lib.hid (show ((tickL time (m.take k)).map entC).length ≤ 10000 by rw [List.length_map]; omega)
   rw [hc] at hrange
   obtain ⟨o, ho⟩ : ∃ o, off + k * 10 = o := ⟨_, rfl⟩
   rw [ho] at hrange
   have hload := fun W hW => ent_load (hrange W hW)
   have hblk : blk wr b = blk w b := blk_below hbel hb
   have hw1 : IntKind.i64.wrap (c.age + 1) = c.age + 1 := by rw [wraps_i64 _ (by omega) (by omega)]
   have hw2 : wrap64 (c.age + 1) = c.age + 1 := by unfold wrap64; omega
   obtain ⟨W1, hW1⟩ : ∃ v, wr.alloc (.cells (entC c).toArray 118) = v := ⟨_, rfl⟩
   have r1 : row W1 wr.heap.size = (entC c).toArray := by rw [← hW1]; exact row_alloc_at _ _ _ rfl
   have z1 : W1.heap.size = wr.heap.size + 1 := by rw [← hW1]; exact alloc_sizeW _ _
   have b1 : Below wr.heap.size wr W1 := by rw [← hW1]; exact Below.alloc (Below.refl _ _) (Nat.le_refl _) _
   obtain ⟨W2, hW2⟩ : ∃ v, W1.setRow wr.heap.size (entC { c with age := c.age + 1 }).toArray = v := ⟨_, rfl⟩
   have r2 : row W2 wr.heap.size = (entC { c with age := c.age + 1 }).toArray := by rw [← hW2]; exact row_setRow_same (by rw [r1]; simp) (by rw [r1]; simp)
   have z2 : W2.heap.size = wr.heap.size + 1 := by rw [← hW2, setRow_size, z1]
   have b2 : Below wr.heap.size wr W2 := by rw [← hW2]; exact Below.setRow b1 (Nat.le_refl _) _
   have own2 := hown.below b2
   have B2 : Below w.heap.size w W2 := hbel.trans (b2.mono hsz)
   have HZ2 := Lib.hid z2
   have hle2 : w.heap.size ≤ W2.heap.size := by omega
   clear z1 z2
   unfold entC at hload hW1 r1 hW2 r2
   simp only at hW2 r2
   clear hrange htk hlen hc hb
   by_cases hold : c.age + 1 < time
   ·
    have hst : stepL time c = some { c with age := c.age + 1 } := by unfold stepL; rw [if_neg (by omega)]
    have HST := Lib.hid hst
    have holdb := decide_eq_true hold
    clear hst
    have hfold : List.foldl (fun (cs : Array Value) (x : Value × Nat) => cs.setIfInBounds x.2 x.1) #[Value.int .i64 c.v, Value.int .i64 c.port, Value.int .i64 (c.age + 1), Value.int .u8 0, Value.int .u8 0, Value.int .u8 0, Value.int .u8 0, Value.int .u8 0, Value.int .u8 0, Value.bool false] ((u8v c.mac ++ [Value.bool false]).zipIdx 3) = (Value.int .i64 c.v :: (Value.int .i64 c.port :: (Value.int .i64 (c.age + 1) :: (u8v c.mac ++ [Value.bool false])))).toArray :=
     fold_at (u8v c.mac ++ [Value.bool false]) [Value.int .i64 c.v, Value.int .i64 c.port, Value.int .i64 (c.age + 1)] [Value.int .u8 0, Value.int .u8 0, Value.int .u8 0, Value.int .u8 0, Value.int .u8 0, Value.int .u8 0, Value.bool false] (by simp)
    go_wp2_with (at_builtin; refine wpList_appendL rfl rfl Tryz.underlying27 entInfo (by decide) (by decide) w.heap.size _ _ rfl own2 (entC { c with age := c.age + 1 }) rfl (entC_length _) (entC_ones _) HL10.out hle2 ?_)
    intro v' w4 o4 b4 f4
    go_wp2_with fail
    go_roundw
    case rel =>
     refine ⟨k + 1, by omega, by simp, ?_, B2.trans b4⟩
     rw [HTK.out, HST.out, List.map_append]
     exact o4
    case measure => simp [intOf]; omega
   ·
    have hst : stepL time c = none := by unfold stepL; rw [if_pos (by omega)]
    have HST := Lib.hid hst
    have holdb := decide_eq_false hold
    clear hst
    go_wp2_with fail
    go_roundw
    case rel =>
     refine ⟨k + 1, by omega, by simp, ?_, B2⟩
     rw [HTK.out, HST.out]
     simpa using own2
    case measure => simp [intOf]; omega
  ·
   obtain rfl : k = m.length := by omega
   have hkI : ¬ (m.length : Int) < (m.length : Int) := by omega
   rw [List.take_of_length_le (Nat.le_refl _)] at hown
   go_wp2_with fail
   go_ret
   exact ⟨_, rfl, hown, hbel⟩
set_option maxRecDepth 20000 in
set_option maxHeartbeats 4000000 in
theorem r20Without_any (p : Int) (m : List LB) (a : Option Addr) (cap : Nat) (w : World) (h : ElemsAt w a 10 (m.map entC)) (hm : m.length ≤ 1000) (hp : 0 ≤ p) :
  Calls Tryz.prog 29 #[.slice a m.length cap, .int .i64 0, .int .i64 p] w fun e w' => ∃ v', (∃ n, e = .returned (.tuple #[v', n])) ∧ OwnL w' w.heap.size 118 10 v' ((dropL p m).map entC) ∧ Below w.heap.size w w' := by
 have hmI : (m.length : Int) ≤ 1000 := by omega
 go_enter Tryz.func29, Tryz.ntmps29
 go_wp2_with fail
 go_loopw [8, 9] (fun v i wr => ∃ k : Nat, k ≤ m.length ∧ i = .int .i64 k ∧ OwnL wr w.heap.size 118 10 v ((dropL p (m.take k)).map entC) ∧ Below w.heap.size w wr) (fun _ i _ => m.length - (intOf i).toNat)
 case atStart => exact ⟨0, by omega, rfl, by rw [List.take_zero]; exact OwnL.nil _ _ _ _, Below.refl _ _⟩
 case round =>
  obtain ⟨k, hk, rfl, hown, hbel⟩ := hrel
  have hsz := hbel.size
  by_cases hlt : k < m.length
  ·
   have hkI : (k : Int) < (m.length : Int) := by omega
   obtain ⟨b, off, rfl, hb, hrange⟩ := ent_of h hlt
   obtain ⟨c, hc⟩ : ∃ c, m[k] = c := ⟨_, rfl⟩
   have hcm : c ∈ m := by rw [← hc]; exact List.getElem_mem _
   have htk : dropL p (m.take (k + 1)) = dropL p (m.take k) ++ (if c.port == p then [] else [c]) := by rw [List.take_succ_eq_append_getElem hlt, hc, dropL_snoc]
   have hlen : (dropL p (m.take k)).length ≤ 1000 := by have := dropL_length p (m.take k); rw [List.length_take] at this; omega
   have HTK := Lib.hid htk
   have HL10 := Lib.hid (show ((dropL p (m.take k)).map entC).length ≤ 10000 by rw [List.length_map]; omega)
   rw [hc] at hrange
   obtain ⟨o, ho⟩ : ∃ o, off + k * 10 = o := ⟨_, rfl⟩
   rw [ho] at hrange
   have hload := fun W hW => ent_load (hrange W hW)
   have hblk : blk wr b = blk w b := blk_below hbel hb
   obtain ⟨W1, hW1⟩ : ∃ v, wr.alloc (.cells (entC c).toArray 118) = v := ⟨_, rfl⟩
   have r1 : row W1 wr.heap.size = (entC c).toArray := by rw [← hW1]; exact row_alloc_at _ _ _ rfl
   have z1 : W1.heap.size = wr.heap.size + 1 := by rw [← hW1]; exact alloc_sizeW _ _
   have b1 : Below wr.heap.size wr W1 := by rw [← hW1]; exact Below.alloc (Below.refl _ _) (Nat.le_refl _) _
   have own2 := hown.below b1
   have B2 : Below w.heap.size w W1 := hbel.trans (b1.mono hsz)
   have HZ2 := Lib.hid z1
   have hle2 : w.heap.size ≤ W1.heap.size := by omega
   clear z1
   unfold entC at hload hW1 r1
   have hp1 : ¬ p < 0 := by omega
   have hpb := decide_eq_false hp1
   have hpc := decide_eq_true hp
   clear hrange htk hlen hc hb
   cases hold : (c.port == p) with
   | false =>
    have hold2 : (c.port != p) = true := by simp only [bne, hold]; rfl
    rw [hold] at HTK
    have HO := Lib.hid hold
    have hfold : List.foldl (fun (cs : Array Value) (x : Value × Nat) => cs.setIfInBounds x.2 x.1) #[Value.int .i64 c.v, Value.int .i64 c.port, Value.int .i64 c.age, Value.int .u8 0, Value.int .u8 0, Value.int .u8 0, Value.int .u8 0, Value.int .u8 0, Value.int .u8 0, Value.bool false] ((u8v c.mac ++ [Value.bool false]).zipIdx 3) = (Value.int .i64 c.v :: (Value.int .i64 c.port :: (Value.int .i64 c.age :: (u8v c.mac ++ [Value.bool false])))).toArray :=
     fold_at (u8v c.mac ++ [Value.bool false]) [Value.int .i64 c.v, Value.int .i64 c.port, Value.int .i64 c.age] [Value.int .u8 0, Value.int .u8 0, Value.int .u8 0, Value.int .u8 0, Value.int .u8 0, Value.int .u8 0, Value.bool false] (by simp)
    go_wp2_with (at_builtin; refine wpList_appendL rfl rfl Tryz.underlying27 entInfo (by decide) (by decide) w.heap.size _ _ rfl own2 (entC c) rfl (entC_length _) (entC_ones _) HL10.out hle2 ?_)
    intro v' w4 o4 b4 f4
    go_wp2_with fail
    go_roundw
    case rel =>
     refine ⟨k + 1, by omega, by simp, ?_, B2.trans b4⟩
     rw [HTK.out, List.map_append]
     exact o4
    case measure => simp [intOf]; omega
   | true =>
    have hold2 : (c.port != p) = false := by simp only [bne, hold]; rfl
    rw [hold] at HTK
    go_wp2_with fail
    go_roundw
    case rel =>
     refine ⟨k + 1, by omega, by simp, ?_, B2⟩
     rw [HTK.out]
     simpa using own2
    case measure => simp [intOf]; omega
  ·
   obtain rfl : k = m.length := by omega
   have hkI : ¬ (m.length : Int) < (m.length : Int) := by omega
   rw [List.take_of_length_le (Nat.le_refl _)] at hown
   obtain ⟨oa, oc, oe, _⟩ := hown.elems
   subst oe
   go_wp2_with fail
   go_ret2
   rw [List.length_map] at hown
   exact ⟨_, ⟨_, rfl⟩, hown, hbel⟩
def posI (v : Int) (mac : Vector UInt8 6) (m : List LB) : Int := if (m.findIdx fun b => b.is v mac) < m.length then ((m.findIdx fun b => b.is v mac : Nat) : Int) else -1
set_option maxRecDepth 20000 in
set_option maxHeartbeats 4000000 in
theorem r20Find_any (v : Int) (mac : Vector UInt8 6) (m : List LB) (a : Option Addr) (cap : Nat) (w : World) (h : ElemsAt w a 10 (m.map entC)) (hm : m.length ≤ 1000) :
  Calls Tryz.prog 47 #[.slice a m.length cap, .int .i64 v, .agg (u8v mac).toArray] w fun e w' => e = .returned (.int .i64 (posI v mac m)) ∧ Below w.heap.size w w' := by
 have hmI : (m.length : Int) ≤ 1000 := by omega
 obtain ⟨r, hr⟩ : ∃ x, posI v mac m = x := ⟨_, rfl⟩
 rw [hr]
 have HR := Lib.hid hr
 clear hr
 go_enter Tryz.func47, Tryz.ntmps47
 obtain ⟨W, hW⟩ : ∃ W, w.alloc (.cells (u8v mac).toArray 64) = W := ⟨_, rfl⟩
 have bW : Below w.heap.size w W := by rw [← hW]; exact Below.alloc (Below.refl _ _) (Nat.le_refl _) _
 have rQ : row W w.heap.size = (u8v mac).toArray := by rw [← hW]; exact row_alloc_at _ _ _ rfl
 have zW : W.heap.size = w.heap.size + 1 := by rw [← hW]; simp
 go_wp2_with fail
 (try rw [hW])
 clear hW
 go_loopw [7] (fun i wr => ∃ k : Nat, k ≤ m.length ∧ i = .int .i64 k ∧ k ≤ (m.findIdx fun b => b.is v mac) ∧ Below w.heap.size w wr ∧ row wr w.heap.size = (u8v mac).toArray ∧ w.heap.size < wr.heap.size) (fun i _ => m.length - (intOf i).toNat)
 case atStart => exact ⟨0, by omega, rfl, by omega, bW, rQ, by omega⟩
 case round =>
  clear bW rQ zW
  obtain ⟨k, hk, rfl, hno, D, rQ, zQ⟩ := hrel
  have HNO := Lib.hid hno
  clear hno
  by_cases hlt : k < m.length
  ·
   have hkI : (k : Int) < (m.length : Int) := by omega
   obtain ⟨b, off, rfl, hb, hrange⟩ := ent_of h hlt
   have his : (m[k].is v mac = true → (m.findIdx fun b => b.is v mac) = k) ∧ (m[k].is v mac = false → k + 1 ≤ (m.findIdx fun b => b.is v mac)) := by
    constructor
    ·
     intro hi
     refine Nat.le_antisymm (Nat.le_of_not_lt fun h1 => ?_) HNO.out
     have h3 := List.not_of_lt_findIdx (p := fun b : LB => b.is v mac) h1
     rw [hi] at h3
     cases h3
    ·
     intro hi
     rcases Nat.lt_or_ge k (m.findIdx fun b => b.is v mac) with h1 | h1
     ·
      exact h1
     ·
      have h2 : (m.findIdx fun b => b.is v mac) = k := Nat.le_antisymm h1 HNO.out
      have h3 := List.findIdx_getElem (p := fun b : LB => b.is v mac) (xs := m) (w := by rw [h2]; exact hlt)
      simp only [h2] at h3
      rw [hi] at h3
      cases h3
   obtain ⟨c, hc⟩ : ∃ c, m[k] = c := ⟨_, rfl⟩
   rw [hc] at hrange his
   obtain ⟨o, ho⟩ : ∃ o, off + k * 10 = o := ⟨_, rfl⟩
   rw [ho] at hrange
   have hblk : blk wr b = blk w b := blk_below D hb
   have g0 : ∀ W, Below w.heap.size w W → W.cell? ⟨b, o, none⟩ = some (.int .i64 c.v) := fun W hW => hrange W (blk_below hW hb) 0 _ rfl
   have gm : ∀ W, Below w.heap.size w W → (loadS 64 (.pointer (some ⟨b, o + 3, none⟩))).run Tryz.prog W = .ok (.agg (u8v c.mac).toArray) W := fun W hW => run_loadS_at (rangeAt_part (l := [Value.int .i64 c.v, Value.int .i64 c.port, Value.int .i64 c.age]) (m := u8v c.mac) (r := [Value.bool false]) (hrange W (blk_below hW hb)) rfl) (by simp)
   have hG : GrowP fun W => Below w.heap.size w W := grow_base w
   have HIS := Lib.hid his
   clear hrange hc hblk his h
   cases e1 : (c.v == v) with
   | false =>
    have hf : c.is v mac = false := by unfold LB.is; rw [Bool.and_eq_false_iff]; left; rw [beq_eq_false_iff_ne] at e1 ⊢; exact Ne.symm e1
    have HK := Lib.hid (HIS.out.2 hf)
    clear hf
    go_wp2_with fail
    refine wp_region_beginX [(w.heap.size, (u8v mac).toArray)] (fun W => Below w.heap.size w W) hG rfl (by simp only [Rws]; (repeat (first | exact trivial | refine ⟨(by first | assumption | (simp [go_sem, *]; done)), (by first | omega | (simp; done) | (simp; omega)), ?_⟩))) (D) (fun hS => ?_)
    refine sp 0 hG hS ?_
    refine sp 1 hG hS ?_
    refine sp 2 hG hS ?_
    refine sp 3 hG hS ?_
    refine sp 4 hG hS ?_
    refine sp 5 hG hS ?_
    refine sp 6 hG hS ?_
    refine sp 7 hG hS ?_
    refine sn 8 hG hS ?_
    refine sn 9 hG hS ?_
    refine sn 10 hG hS ?_
    refine sn 11 hG hS ?_
    refine sn 12 hG hS ?_
    refine sn 13 hG hS ?_
    refine sn 14 hG hS ?_
    refine sp 15 hG hS ?_
    refine wpAnyR_done (by kernel_rfl) (fun wf bwf => ?_) _
    have bf := below_step (Below.drew (Below.refl _ _)) bwf
    have Df := D.trans (bf.mono D.size)
    have rQf := (row_below bf zQ).trans rQ
    have zQf : w.heap.size < wf.heap.size := Nat.lt_of_lt_of_le zQ bf.size
    clear hS bwf bf rQ
    go_wp2_with fail
    go_roundw
    case rel => exact ⟨k + 1, by omega, by simp, HK.out, Df, rQf, zQf⟩
    case measure => simp [intOf]; omega
   | true =>
    have e1v : v = c.v := (beq_iff_eq.1 e1).symm
    cases e2 : (c.mac == mac) with
    | false =>
     have hf : c.is v mac = false := by unfold LB.is; rw [Bool.and_eq_false_iff]; right; rw [beq_eq_false_iff_ne] at e2 ⊢; exact Ne.symm e2
     have HK := Lib.hid (HIS.out.2 hf)
     clear hf e1v
     go_wp2_with fail
     refine wp_region_beginX [(w.heap.size, (u8v mac).toArray)] (fun W => Below w.heap.size w W) hG rfl (by simp only [Rws]; (repeat (first | exact trivial | refine ⟨(by first | assumption | (simp [go_sem, *]; done)), (by first | omega | (simp; done) | (simp; omega)), ?_⟩))) (D) (fun hS => ?_)
     refine sp 0 hG hS ?_
     refine sp 1 hG hS ?_
     refine sp 2 hG hS ?_
     refine sp 3 hG hS ?_
     refine sp 4 hG hS ?_
     refine sp 5 hG hS ?_
     refine sp 6 hG hS ?_
     refine sp 7 hG hS ?_
     refine sp 8 hG hS ?_
     refine sp 9 hG hS ?_
     refine sp 10 hG hS ?_
     refine sp 11 hG hS ?_
     refine sp 12 hG hS ?_
     refine sp 13 hG hS ?_
     refine sp 14 hG hS ?_
     refine sp 15 hG hS ?_
     refine wpAnyR_done (by kernel_rfl) (fun wf bwf => ?_) _
     have bf := below_step (Below.drew (Below.refl _ _)) bwf
     have Df := D.trans (bf.mono D.size)
     have rQf := (row_below bf zQ).trans rQ
     have zQf : w.heap.size < wf.heap.size := Nat.lt_of_lt_of_le zQ bf.size
     clear hS bwf bf rQ
     go_wp2_with fail
     go_roundw
     case rel => exact ⟨k + 1, by omega, by simp, HK.out, Df, rQf, zQf⟩
     case measure => simp [intOf]; omega
    | true =>
     have e2m : mac = c.mac := (beq_iff_eq.1 e2).symm
     have hf : c.is v mac = true := by unfold LB.is; rw [e1v, e2m]; simp
     have hfi := HIS.out.1 hf
     have HP := Lib.hid (show posI v mac m = (k : Int) by unfold posI; rw [hfi, if_pos hlt])
     clear hf hfi e1v e2m
     go_wp2_with fail
     refine wp_region_beginX [(w.heap.size, (u8v mac).toArray)] (fun W => Below w.heap.size w W) hG rfl (by simp only [Rws]; (repeat (first | exact trivial | refine ⟨(by first | assumption | (simp [go_sem, *]; done)), (by first | omega | (simp; done) | (simp; omega)), ?_⟩))) (D) (fun hS => ?_)
     refine sp 0 hG hS ?_
     refine sp 1 hG hS ?_
     refine sp 2 hG hS ?_
     refine sp 3 hG hS ?_
     refine sp 4 hG hS ?_
     refine sp 5 hG hS ?_
     refine sp 6 hG hS ?_
     refine sp 7 hG hS ?_
     refine sp 8 hG hS ?_
     refine sp 9 hG hS ?_
     refine sp 10 hG hS ?_
     refine sp 11 hG hS ?_
     refine sp 12 hG hS ?_
     refine sp 13 hG hS ?_
     refine sp 14 hG hS ?_
     refine sp 15 hG hS ?_
     refine wpAnyR_done (by kernel_rfl) (fun wf bwf => ?_) _
     have bf := below_step (Below.drew (Below.refl _ _)) bwf
     have Df := D.trans (bf.mono D.size)
     have rQf := (row_below bf zQ).trans rQ
     have zQf : w.heap.size < wf.heap.size := Nat.lt_of_lt_of_le zQ bf.size
     clear hS bwf bf rQ
     go_wp2_with fail
     go_ret
     exact ⟨by rw [← HR.out, HP.out]; rfl, Df⟩
  ·
   obtain rfl : k = m.length := by omega
   have HP := Lib.hid (show posI v mac m = -1 by unfold posI; rw [if_neg (by have := HNO.out; omega)])
   go_wp2_with fail
   go_ret
   exact ⟨by rw [← HR.out, HP.out]; rfl, D⟩
end
section
open Go.RowKit
theorem ent_mac (c : LB) (k : Nat) (hk : k < 6) : (entC c)[3 + k]? = some (.int .u8 ((c.mac[k]'hk).toNat : Int)) := by
 have h3 : ([Value.int .i64 c.v, Value.int .i64 c.port, Value.int .i64 c.age] ++ (u8v c.mac ++ [Value.bool false]))[3 + k]? = some (.int .u8 ((c.mac[k]'hk).toNat : Int)) := by
  rw [List.getElem?_append_right (by simp), List.getElem?_append_left (by simp; omega)]
  simp [u8v, u8s, hk]
 exact h3
def lessL : List UInt8 → List UInt8 → Bool
 | x :: xs, y :: ys => if x == y then lessL xs ys else decide (x.toNat < y.toNat)
 | _, _ => false
theorem lessL_nil (l : List UInt8) : lessL [] l = false := by cases l <;> rfl
def lessB (a b : LB) : Bool := if a.v == b.v then lessL a.mac.toList b.mac.toList else decide (a.v < b.v)
theorem lessL_step (a b : Vector UInt8 6) {k : Nat} (hk : k < 6) : lessL (a.toList.drop k) (b.toList.drop k) = if a[k] == b[k] then lessL (a.toList.drop (k + 1)) (b.toList.drop (k + 1)) else decide (a[k].toNat < b[k].toNat) := by
 rw [List.drop_eq_getElem_cons (by simp; omega), List.drop_eq_getElem_cons (l := b.toList) (by simp; omega), lessL]
 simp
set_option maxRecDepth 20000 in
set_option maxHeartbeats 4000000 in
theorem r20less_any (a b : LB) (w : World) :
  Calls Tryz.prog 100 #[.agg (entC a).toArray, .agg (entC b).toArray] w fun e w' => e = .returned (.bool (lessB a b)) ∧ Below w.heap.size w w' := by
 obtain ⟨r, hr⟩ : ∃ x, lessB a b = x := ⟨_, rfl⟩
 rw [hr]
 have HR := Lib.hid hr
 clear hr
 go_enter Tryz.func100, Tryz.ntmps100
 obtain ⟨W, hW⟩ : ∃ W, (w.alloc (.cells (entC a).toArray 118)).alloc (.cells (entC b).toArray 118) = W := ⟨_, rfl⟩
 have bW : Below w.heap.size w W := by rw [← hW]; exact Below.alloc (Below.alloc (Below.refl _ _) (Nat.le_refl _) _) (by simp) _
 have zW : W.heap.size = w.heap.size + 2 := by rw [← hW]; simp
 have rA : row W w.heap.size = (entC a).toArray := by rw [← hW]; simp [go_sem]
 have rB : row W (w.heap.size + 1) = (entC b).toArray := by rw [← hW]; simp [go_sem]
 have cA : ∀ wr, Below w.heap.size w wr → Below W.heap.size W wr → ∀ k, (hk : k < 6) → wr.cell? ⟨w.heap.size, 3 + k, none⟩ = some (.int .u8 ((a.mac[k]'hk).toNat : Int)) := by
  intro wr _ hw k hk
  have e : row wr w.heap.size = (entC a).toArray := (row_below hw (by omega)).trans rA
  rw [cell_of_row' (by rw [e]; simp; omega), e, List.getElem?_toArray, ent_mac a k hk]
 have cB : ∀ wr, Below w.heap.size w wr → Below W.heap.size W wr → ∀ k, (hk : k < 6) → wr.cell? ⟨w.heap.size + 1, 3 + k, none⟩ = some (.int .u8 ((b.mac[k]'hk).toNat : Int)) := by
  intro wr _ hw k hk
  have e : row wr (w.heap.size + 1) = (entC b).toArray := (row_below hw (by omega)).trans rB
  rw [cell_of_row' (by rw [e]; simp; omega), e, List.getElem?_toArray, ent_mac b k hk]
 have CA := Lib.hid cA
 have CB := Lib.hid cB
 have HB := Lib.hid bW
 clear cA cB zW bW
 unfold entC at *
 cases hv : (a.v != b.v) with
 | true =>
  go_wp2_with fail
  go_ret
  exact ⟨by rw [← HR.out, lessB, if_neg (by simpa using hv)]; rfl, HB.out⟩
 | false =>
 go_wp2_with fail
 (try rw [hW])
 clear hW
 have hG : GrowP fun W' => Below W.heap.size W W' := grow_base W
 go_loopw [5] (fun i wr => ∃ k : Nat, k ≤ 6 ∧ i = .int .i64 k ∧ Below W.heap.size W wr ∧ r = lessL (a.mac.toList.drop k) (b.mac.toList.drop k)) (fun i _ => 6 - (intOf i).toNat)
 case atStart => exact ⟨0, by omega, rfl, Below.refl _ _, by rw [← HR.out, lessB, if_pos (by simpa using hv)]; rfl⟩
 case round =>
  obtain ⟨k, hk, rfl, D, hL⟩ := hrel
  have HL := Lib.hid hL
  clear hL
  by_cases hlt : k < 6
  ·
   have hkI : (k : Int) < 6 := by omega
   have HST := Lib.hid (lessL_step a.mac b.mac hlt)
   obtain ⟨x, hx⟩ : ∃ x, a.mac[k] = x := ⟨_, rfl⟩
   obtain ⟨y, hy⟩ : ∃ x, b.mac[k] = x := ⟨_, rfl⟩
   have ga : ∀ wr, Below W.heap.size W wr → wr.cell? ⟨w.heap.size, 3 + k, none⟩ = some (.int .u8 (x.toNat : Int)) := fun wr hw => by rw [← hx]; exact CA.out wr (HB.out.trans (hw.mono HB.out.size)) hw k hlt
   have gb : ∀ wr, Below W.heap.size W wr → wr.cell? ⟨w.heap.size + 1, 3 + k, none⟩ = some (.int .u8 (y.toNat : Int)) := fun wr hw => by rw [← hy]; exact CB.out wr (HB.out.trans (hw.mono HB.out.size)) hw k hlt
   rw [hx, hy] at HST
   clear hx hy
   cases e1 : ((x.toNat : Int) != (y.toNat : Int)) with
   | true =>
    go_wp2_with fail
    refine wp_region_beginX [] (fun W' => Below W.heap.size W W') hG rfl (by simp only [Rws]; (repeat (first | exact trivial | refine ⟨(by first | assumption | (simp [go_sem, *]; done)), (by first | omega | (simp; done) | (simp; omega)), ?_⟩))) (D) (fun hS => ?_)
    refine sp 0 hG hS ?_
    refine sp 1 hG hS ?_
    refine sp 2 hG hS ?_
    refine sp 3 hG hS ?_
    refine sp 4 hG hS ?_
    refine sp 5 hG hS ?_
    refine sp 6 hG hS ?_
    refine sp 7 hG hS ?_
    refine sp 8 hG hS ?_
    refine wpAnyR_done (by kernel_rfl) (fun w1 bw1 => ?_) _
    have b1 := below_step (Below.drew (Below.refl _ _)) bw1
    have D1 := D.trans (b1.mono D.size)
    clear hS bw1 b1 D
    go_wp2_with fail
    refine wp_region_beginX [] (fun W' => Below W.heap.size W W') hG rfl (by simp only [Rws]; (repeat (first | exact trivial | refine ⟨(by first | assumption | (simp [go_sem, *]; done)), (by first | omega | (simp; done) | (simp; omega)), ?_⟩))) (D1) (fun hS => ?_)
    refine sp 0 hG hS ?_
    refine sp 1 hG hS ?_
    refine sp 2 hG hS ?_
    refine sp 3 hG hS ?_
    refine sp 4 hG hS ?_
    refine sp 5 hG hS ?_
    refine sp 6 hG hS ?_
    refine sp 7 hG hS ?_
    refine sp 8 hG hS ?_
    refine sp 9 hG hS ?_
    refine wpAnyR_done (by kernel_rfl) (fun w2 bw2 => ?_) _
    have b2 := below_step (Below.drew (Below.refl _ _)) bw2
    have D2 := D1.trans (b2.mono D1.size)
    clear hS bw2 b2 D1
    go_wp2_with fail
    go_ret
    exact ⟨by rw [HL.out, HST.out, if_neg (by simp at e1 ⊢; intro h; rw [h] at e1; exact e1 rfl)]; rfl, HB.out.trans (D2.mono HB.out.size)⟩
   | false =>
    go_wp2_with fail
    refine wp_region_beginX [] (fun W' => Below W.heap.size W W') hG rfl (by simp only [Rws]; (repeat (first | exact trivial | refine ⟨(by first | assumption | (simp [go_sem, *]; done)), (by first | omega | (simp; done) | (simp; omega)), ?_⟩))) (D) (fun hS => ?_)
    refine sp 0 hG hS ?_
    refine sp 1 hG hS ?_
    refine sp 2 hG hS ?_
    refine sp 3 hG hS ?_
    refine sp 4 hG hS ?_
    refine sp 5 hG hS ?_
    refine sp 6 hG hS ?_
    refine sp 7 hG hS ?_
    refine sp 8 hG hS ?_
    refine wpAnyR_done (by kernel_rfl) (fun w1 bw1 => ?_) _
    have b1 := below_step (Below.drew (Below.refl _ _)) bw1
    have D1 := D.trans (b1.mono D.size)
    clear hS bw1 b1 D
    go_wp2_with fail
    go_roundw
    case rel => exact ⟨k + 1, by omega, by simp, D1, by rw [HL.out, HST.out, if_pos (beq_iff_eq.2 (UInt8.toNat_inj.1 (Int.ofNat.inj (by simpa [bne] using e1))))]⟩
    case measure => simp [intOf]; omega
  ·
   obtain rfl : k = 6 := by omega
   rw [show ((6 : Nat) : Int) = 6 from rfl]
   go_wp2_with fail
   go_ret
   exact ⟨by rw [HL.out, List.drop_of_length_le (l := a.mac.toList) (by simp), lessL_nil]; rfl, HB.out.trans (D.mono HB.out.size)⟩
def restL (e : LB) (m : List LB) : List LB := m.filter fun c => !c.is e.v e.mac
theorem restL_snoc (e : LB) (m : List LB) (c : LB) : restL e (m ++ [c]) = restL e m ++ (if c.is e.v e.mac then [] else [c]) := by
 unfold restL
 rw [List.filter_append]
 congr 1
 cases h : c.is e.v e.mac <;> simp [h]
theorem restL_length (e : LB) (m : List LB) : (restL e m).length ≤ m.length := List.length_filter_le _ _
theorem is_sameL {b c : LB} {v : Int} {mac : Vector UInt8 6} (h : b.is v mac = true) (h2 : c.is v mac = true) : b.is c.v c.mac = true := by
 simp only [LB.is, Bool.and_eq_true, beq_iff_eq] at h h2 ⊢
 exact ⟨h2.1.symm.trans h.1, h2.2.symm.trans h.2⟩
theorem restL_none {e : LB} : ∀ {m : List LB}, (∀ c ∈ m, c.is e.v e.mac = false) → restL e m = m := by
 intro m h
 unfold restL
 rw [List.filter_eq_self]
 intro c hc
 rw [h c hc]
 rfl
theorem perm_mid {l m x : List LB} {c : LB} (h : l.Perm (m ++ x)) : (l ++ [c]).Perm (m ++ [c] ++ x) := by
 refine (h.append_right [c]).trans ?_
 rw [List.append_assoc, List.append_assoc]
 exact (List.perm_append_comm (l₁ := x) (l₂ := [c])).append_left m
theorem perm_two {l m : List LB} {e c : LB} (h : l.Perm (m ++ [])) : (l ++ [e] ++ [c]).Perm (m ++ [c] ++ [e]) := by
 rw [List.append_nil] at h
 rw [List.append_assoc, List.append_assoc]
 exact h.append (List.perm_append_comm (l₁ := [e]) (l₂ := [c]))
theorem put_perm (e : LB) : ∀ {m : List LB}, DistL m → (restL e m ++ [e]).Perm (putL e m)
 | [], _ => List.Perm.refl _
 | c :: m, hd => by
  have hd2 : DistL m := (List.pairwise_cons.1 hd).2
  have hd1 := (List.pairwise_cons.1 hd).1
  unfold putL
  cases hc : c.is e.v e.mac with
  | true =>
   have hn : ∀ d ∈ m, d.is e.v e.mac = false := by
    intro d hdm
    rw [Bool.eq_false_iff]
    intro h2
    have h3 := hd1 d hdm
    rw [is_sameL hc h2] at h3
    cases h3
   have e1 : restL e (c :: m) = m := by
    have : restL e (c :: m) = restL e m := by unfold restL; rw [List.filter_cons, hc]; rfl
    rw [this, restL_none hn]
   rw [e1, if_pos rfl]
   exact List.perm_append_singleton e m
  | false =>
   have e1 : restL e (c :: m) = c :: restL e m := by unfold restL; rw [List.filter_cons, hc]; rfl
   rw [e1, if_neg (by simp)]
   exact (put_perm e hd2).cons c
set_option maxRecDepth 20000 in
set_option maxHeartbeats 8000000 in
theorem r20Put_any (e : LB) (m : List LB) (a : Option Addr) (cap : Nat) (w : World) (h : ElemsAt w a 10 (m.map entC)) (hm : m.length ≤ 1000) (hd : DistL m) :
  Calls Tryz.prog 77 #[.slice a m.length cap, .agg (entC e).toArray] w fun x w' => (∃ (v' : Value) (l' : List LB), x = .returned v' ∧ SlL w' 10 v' (l'.map entC) ∧ l'.Perm (putL e m)) ∧ Below w.heap.size w w' := by
 have hmI : (m.length : Int) ≤ 1000 := by omega
 have HPP := Lib.hid (put_perm e hd)
 clear hd
 have HLS := Lib.hid (fun (c : LB) w => r20less_any e c w)
 unfold entC at HLS
 go_enter Tryz.func77, Tryz.ntmps77
 obtain ⟨W, hW⟩ : ∃ W, w.alloc (.cells (entC e).toArray 118) = W := ⟨_, rfl⟩
 have bW : Below w.heap.size w W := by rw [← hW]; exact Below.alloc (Below.refl _ _) (Nat.le_refl _) _
 have zW : w.heap.size < W.heap.size := by rw [← hW, alloc_sizeW]; omega
 have rE : row W w.heap.size = (Value.int .i64 e.v :: (Value.int .i64 e.port :: (Value.int .i64 e.age :: (u8v e.mac ++ [Value.bool false])))).toArray := by rw [← hW]; exact row_alloc_at _ _ _ rfl
 go_wp2_with fail
 (try rw [hW])
 clear hW
 go_loopw [5, 6, 7] (fun v dn i wr => ∃ (k : Nat) (b : Bool) (l' : List LB), k ≤ m.length ∧ i = .int .i64 k ∧ dn = .bool b ∧ OwnL wr W.heap.size 118 10 v (l'.map entC) ∧ l'.Perm (restL e (m.take k) ++ if b then [e] else []) ∧ Below w.heap.size w wr ∧ row wr w.heap.size = (Value.int .i64 e.v :: (Value.int .i64 e.port :: (Value.int .i64 e.age :: (u8v e.mac ++ [Value.bool false])))).toArray ∧ w.heap.size < W.heap.size ∧ W.heap.size ≤ wr.heap.size) (fun _ _ i _ => m.length - (intOf i).toNat)
 case atStart => exact ⟨0, false, [], by omega, rfl, rfl, OwnL.nil _ _ _ _, List.Perm.refl _, bW, rE, zW, Nat.le_refl _⟩
 case round =>
  clear bW rE zW
  obtain ⟨k, b, l', hk, rfl, rfl, hown, hpm, D, rE, zW, zV⟩ := hrel
  have zE : w.heap.size < wr.heap.size := by omega
  have HPM := Lib.hid hpm
  have hlen : l'.length ≤ 1001 := by
   rw [hpm.length_eq, List.length_append]
   have := restL_length e (m.take k)
   rw [List.length_take] at this
   split <;> simp <;> omega
  have HL1 := Lib.hid (show (l'.map entC).length ≤ 10000 by rw [List.length_map]; omega)
  have HL2 := Lib.hid (show (l'.map entC ++ [entC e]).length ≤ 10000 by rw [List.length_append, List.length_map]; simp; omega)
  clear hpm hlen
  by_cases hlt : k < m.length
  ·
   have hkI : (k : Int) < (m.length : Int) := by omega
   obtain ⟨b0, off, rfl, hb, hrange⟩ := ent_of h hlt
   obtain ⟨c, hc⟩ : ∃ c, m[k] = c := ⟨_, rfl⟩
   have HTK := Lib.hid (show restL e (m.take (k + 1)) = restL e (m.take k) ++ (if c.is e.v e.mac then [] else [c]) by rw [List.take_succ_eq_append_getElem hlt, hc, restL_snoc])
   rw [hc] at hrange
   obtain ⟨o, ho⟩ : ∃ o, off + k * 10 = o := ⟨_, rfl⟩
   rw [ho] at hrange
   have g0 : ∀ W, Below w.heap.size w W → W.cell? ⟨b0, o, none⟩ = some (.int .i64 c.v) := fun W hW => hrange W (blk_below hW hb) 0 _ rfl
   have gm : ∀ W, Below w.heap.size w W → (loadS 64 (.pointer (some ⟨b0, o + 3, none⟩))).run Tryz.prog W = .ok (.agg (u8v c.mac).toArray) W := fun W hW => run_loadS_at (rangeAt_part (l := [Value.int .i64 c.v, Value.int .i64 c.port, Value.int .i64 c.age]) (m := u8v c.mac) (r := [Value.bool false]) (hrange W (blk_below hW hb)) rfl) (by simp)
   have gl : ∀ W, Below w.heap.size w W → (loadS 118 (.pointer (some ⟨b0, o, none⟩))).run Tryz.prog W = .ok (.agg (Value.int .i64 c.v :: (Value.int .i64 c.port :: (Value.int .i64 c.age :: (u8v c.mac ++ [Value.bool false])))).toArray) W := fun W hW => ent_load (hrange W (blk_below hW hb))
   have hG : GrowP fun W => Below w.heap.size w W := grow_base w
   clear hrange hc h
   have own0 := hown
   have rE0 := rE
   have zE0 := zE
   have zV0 := zV
   have D0 := D
   clear hown rE zE D
   cases hk1 : c.is e.v e.mac with
   | true =>
    have HK1 := Lib.hid hk1
    have e12 : (c.v == e.v) = true ∧ (c.mac == e.mac) = true := by
     simp only [LB.is, Bool.and_eq_true, beq_iff_eq] at hk1 ⊢
     exact ⟨hk1.1.symm, hk1.2.symm⟩
    obtain ⟨e1, e2⟩ := e12
    clear hk1
    go_wp2_with fail
    refine wp_region_beginX [(w.heap.size, (Value.int .i64 e.v :: (Value.int .i64 e.port :: (Value.int .i64 e.age :: (u8v e.mac ++ [Value.bool false])))).toArray)] (fun W => Below w.heap.size w W) hG rfl (by simp only [Rws]; (repeat (first | exact trivial | refine ⟨(by first | assumption | (simp [go_sem, *]; done)), (by first | omega | (simp; done) | (simp; omega)), ?_⟩))) (D0) (fun hS => ?_)
    refine sp 0 hG hS ?_
    refine sp 1 hG hS ?_
    refine sp 2 hG hS ?_
    refine sp 3 hG hS ?_
    refine sp 4 hG hS ?_
    refine sp 5 hG hS ?_
    refine sp 6 hG hS ?_
    refine sp 7 hG hS ?_
    refine sp 8 hG hS ?_
    refine sp 9 hG hS ?_
    refine sp 10 hG hS ?_
    refine sp 11 hG hS ?_
    refine sp 12 hG hS ?_
    refine sp 13 hG hS ?_
    refine sp 14 hG hS ?_
    refine sp 15 hG hS ?_
    refine sp 16 hG hS ?_
    refine sp 17 hG hS ?_
    refine wpAnyR_done (by kernel_rfl) (fun w1 bw1 => ?_) _
    have b1 := below_step (Below.drew (Below.refl _ _)) bw1
    have D1 := D0.trans (b1.mono D0.size)
    have own1 := own0.below b1
    have rE1 := (row_below b1 zE0).trans rE0
    have zE1 : w.heap.size < w1.heap.size := Nat.lt_of_lt_of_le zE0 b1.size
    have zV1 : W.heap.size ≤ w1.heap.size := Nat.le_trans zV0 b1.size
    clear hS bw1 b1 D0 rE0 own0
    go_wp2_with fail
    go_roundw
    case rel => exact ⟨k + 1, b, l', by omega, by simp, rfl, own1, by rw [HTK.out, HK1.out, if_pos rfl, List.append_nil]; exact HPM.out, D1, rE1, zW, zV1⟩
    case measure => simp [intOf]; omega
   | false =>
    have HKF := Lib.hid hk1
    clear hk1
    cases e1 : (c.v == e.v) with
    | false =>
     go_wp2_with fail
     refine wp_region_beginX [(w.heap.size, (Value.int .i64 e.v :: (Value.int .i64 e.port :: (Value.int .i64 e.age :: (u8v e.mac ++ [Value.bool false])))).toArray)] (fun W => Below w.heap.size w W) hG rfl (by simp only [Rws]; (repeat (first | exact trivial | refine ⟨(by first | assumption | (simp [go_sem, *]; done)), (by first | omega | (simp; done) | (simp; omega)), ?_⟩))) (D0) (fun hS => ?_)
     refine sp 0 hG hS ?_
     refine sp 1 hG hS ?_
     refine sp 2 hG hS ?_
     refine sp 3 hG hS ?_
     refine sp 4 hG hS ?_
     refine sp 5 hG hS ?_
     refine sp 6 hG hS ?_
     refine sp 7 hG hS ?_
     refine sp 8 hG hS ?_
     refine sn 9 hG hS ?_
     refine sn 10 hG hS ?_
     refine sn 11 hG hS ?_
     refine sn 12 hG hS ?_
     refine sn 13 hG hS ?_
     refine sn 14 hG hS ?_
     refine sn 15 hG hS ?_
     refine sn 16 hG hS ?_
     refine sp 17 hG hS ?_
     refine wpAnyR_done (by kernel_rfl) (fun w1 bw1 => ?_) _
     have b1 := below_step (Below.drew (Below.refl _ _)) bw1
     have D1 := D0.trans (b1.mono D0.size)
     have own1 := own0.below b1
     have rE1 := (row_below b1 zE0).trans rE0
     have zE1 : w.heap.size < w1.heap.size := Nat.lt_of_lt_of_le zE0 b1.size
     have zV1 : W.heap.size ≤ w1.heap.size := Nat.le_trans zV0 b1.size
     clear hS bw1 b1 D0 rE0 own0
     cases b with
     | true =>
      go_wp2_with fail
      refine wp_region_beginX [(w.heap.size, (Value.int .i64 e.v :: (Value.int .i64 e.port :: (Value.int .i64 e.age :: (u8v e.mac ++ [Value.bool false])))).toArray)] (fun W => Below w.heap.size w W) hG rfl (by simp only [Rws]; (repeat (first | exact trivial | refine ⟨(by first | assumption | (simp [go_sem, *]; done)), (by first | omega | (simp; done) | (simp; omega)), ?_⟩))) (D1) (fun hS => ?_)
      refine sp 0 hG hS ?_
      refine sp 1 hG hS ?_
      refine sp 2 hG hS ?_
      refine sn 3 hG hS ?_
      refine sn 4 hG hS ?_
      refine sn 5 hG hS ?_
      refine sn 6 hG hS ?_
      refine sn 7 hG hS ?_
      refine sn 8 hG hS ?_
      refine sp 9 hG hS ?_
      refine wpAnyR_done (by kernel_rfl) (fun w2 bw2 => ?_) _
      have b2 := below_step (Below.drew (Below.refl _ _)) bw2
      have D2 := D1.trans (b2.mono D1.size)
      have own2 := own1.below b2
      have rE2 := (row_below b2 zE1).trans rE1
      have zE2 : w.heap.size < w2.heap.size := Nat.lt_of_lt_of_le zE1 b2.size
      have zV2 : W.heap.size ≤ w2.heap.size := Nat.le_trans zV1 b2.size
      clear hS bw2 b2 D1 rE1 own1
      have hfoldc : List.foldl (fun (cs : Array Value) (x : Value × Nat) => cs.setIfInBounds x.2 x.1) #[Value.int .i64 c.v, Value.int .i64 c.port, Value.int .i64 c.age, Value.int .u8 0, Value.int .u8 0, Value.int .u8 0, Value.int .u8 0, Value.int .u8 0, Value.int .u8 0, Value.bool false] ((u8v c.mac ++ [Value.bool false]).zipIdx 3) = (Value.int .i64 c.v :: (Value.int .i64 c.port :: (Value.int .i64 c.age :: (u8v c.mac ++ [Value.bool false])))).toArray :=
       fold_at (u8v c.mac ++ [Value.bool false]) [Value.int .i64 c.v, Value.int .i64 c.port, Value.int .i64 c.age] [Value.int .u8 0, Value.int .u8 0, Value.int .u8 0, Value.int .u8 0, Value.int .u8 0, Value.int .u8 0, Value.bool false] (by simp)
      have hle : W.heap.size ≤ w2.heap.size := zV2
      go_wp2_with (at_builtin; refine wpList_appendL rfl rfl Tryz.underlying27 entInfo (by decide) (by decide) W.heap.size _ _ rfl own2 (entC c) rfl (entC_length _) (entC_ones _) HL1.out hle ?_)
      intro v4 w4 o4 b4 f4
      have rE4 := (row_below b4 zW).trans rE2
      have zV4 : W.heap.size ≤ w4.heap.size := Nat.le_trans zV2 b4.size
      have o4m := o4
      rw [← List.map_singleton (f := entC), ← List.map_append] at o4m
      go_wp2_with fail
      go_roundw
      case rel => exact ⟨k + 1, true, l' ++ [c], by omega, by simp, rfl, o4m, by rw [HTK.out, HKF.out, if_neg Bool.false_ne_true]; exact perm_mid HPM.out, D2.trans (b4.mono (Nat.le_of_lt zW)), rE4, zW, zV4⟩
      case measure => simp [intOf]; omega
     | false =>
      have HC := Lib.hid (fun w => HLS.out c w)
      obtain ⟨r, hr⟩ : ∃ x, lessB e c = x := ⟨_, rfl⟩
      rw [hr] at HC
      clear hr
      cases r with
      | false =>
       go_wp2_with fail
       refine wp_region_beginX [(w.heap.size, (Value.int .i64 e.v :: (Value.int .i64 e.port :: (Value.int .i64 e.age :: (u8v e.mac ++ [Value.bool false])))).toArray)] (fun W => Below w.heap.size w W) hG rfl (by simp only [Rws]; (repeat (first | exact trivial | refine ⟨(by first | assumption | (simp [go_sem, *]; done)), (by first | omega | (simp; done) | (simp; omega)), ?_⟩))) (D1) (fun hS => ?_)
       refine sp 0 hG hS ?_
       refine sp 1 hG hS ?_
       refine sp 2 hG hS ?_
       refine sp 3 hG hS ?_
       refine sp 4 hG hS ?_
       refine sp 5 hG hS ?_
       refine sp 6 hG hS ?_
       refine sp 7 hG hS ?_
       refine sc 8 (v := ?_) hG hS ?_ ?_
       rotate_left
       ·
        intro w' hS'
        obtain ⟨hS', hX'⟩ := hS'
        simp only [Rws] at hS'
        go_simp
        with_reducible refine (HC.out _).mono ?_
        rintro e w'' ⟨rfl, hb⟩
        exact ⟨_, rfl, by rfl, hb⟩
       refine sp 9 hG hS ?_
       refine wpAnyR_done (by kernel_rfl) (fun w2 bw2 => ?_) _
       have b2 := below_step (Below.drew (Below.refl _ _)) bw2
       have D2 := D1.trans (b2.mono D1.size)
       have own2 := own1.below b2
       have rE2 := (row_below b2 zE1).trans rE1
       have zE2 : w.heap.size < w2.heap.size := Nat.lt_of_lt_of_le zE1 b2.size
       have zV2 : W.heap.size ≤ w2.heap.size := Nat.le_trans zV1 b2.size
       clear hS bw2 b2 D1 rE1 own1
       have hfoldc : List.foldl (fun (cs : Array Value) (x : Value × Nat) => cs.setIfInBounds x.2 x.1) #[Value.int .i64 c.v, Value.int .i64 c.port, Value.int .i64 c.age, Value.int .u8 0, Value.int .u8 0, Value.int .u8 0, Value.int .u8 0, Value.int .u8 0, Value.int .u8 0, Value.bool false] ((u8v c.mac ++ [Value.bool false]).zipIdx 3) = (Value.int .i64 c.v :: (Value.int .i64 c.port :: (Value.int .i64 c.age :: (u8v c.mac ++ [Value.bool false])))).toArray :=
        fold_at (u8v c.mac ++ [Value.bool false]) [Value.int .i64 c.v, Value.int .i64 c.port, Value.int .i64 c.age] [Value.int .u8 0, Value.int .u8 0, Value.int .u8 0, Value.int .u8 0, Value.int .u8 0, Value.int .u8 0, Value.bool false] (by simp)
       have hle : W.heap.size ≤ w2.heap.size := zV2
       go_wp2_with (at_builtin; refine wpList_appendL rfl rfl Tryz.underlying27 entInfo (by decide) (by decide) W.heap.size _ _ rfl own2 (entC c) rfl (entC_length _) (entC_ones _) HL1.out hle ?_)
       intro v4 w4 o4 b4 f4
       have rE4 := (row_below b4 zW).trans rE2
       have zV4 : W.heap.size ≤ w4.heap.size := Nat.le_trans zV2 b4.size
       have o4m := o4
       rw [← List.map_singleton (f := entC), ← List.map_append] at o4m
       go_wp2_with fail
       go_roundw
       case rel => exact ⟨k + 1, false, l' ++ [c], by omega, by simp, rfl, o4m, by rw [HTK.out, HKF.out, if_neg Bool.false_ne_true]; exact perm_mid HPM.out, D2.trans (b4.mono (Nat.le_of_lt zW)), rE4, zW, zV4⟩
       case measure => simp [intOf]; omega
      | true =>
       go_wp2_with fail
       refine wp_region_beginX [(w.heap.size, (Value.int .i64 e.v :: (Value.int .i64 e.port :: (Value.int .i64 e.age :: (u8v e.mac ++ [Value.bool false])))).toArray)] (fun W => Below w.heap.size w W) hG rfl (by simp only [Rws]; (repeat (first | exact trivial | refine ⟨(by first | assumption | (simp [go_sem, *]; done)), (by first | omega | (simp; done) | (simp; omega)), ?_⟩))) (D1) (fun hS => ?_)
       refine sp 0 hG hS ?_
       refine sp 1 hG hS ?_
       refine sp 2 hG hS ?_
       refine sp 3 hG hS ?_
       refine sp 4 hG hS ?_
       refine sp 5 hG hS ?_
       refine sp 6 hG hS ?_
       refine sp 7 hG hS ?_
       refine sc 8 (v := ?_) hG hS ?_ ?_
       rotate_left
       ·
        intro w' hS'
        obtain ⟨hS', hX'⟩ := hS'
        simp only [Rws] at hS'
        go_simp
        with_reducible refine (HC.out _).mono ?_
        rintro e w'' ⟨rfl, hb⟩
        exact ⟨_, rfl, by rfl, hb⟩
       refine sp 9 hG hS ?_
       refine wpAnyR_done (by kernel_rfl) (fun w2 bw2 => ?_) _
       have b2 := below_step (Below.drew (Below.refl _ _)) bw2
       have D2 := D1.trans (b2.mono D1.size)
       have own2 := own1.below b2
       have rE2 := (row_below b2 zE1).trans rE1
       have zE2 : w.heap.size < w2.heap.size := Nat.lt_of_lt_of_le zE1 b2.size
       have zV2 : W.heap.size ≤ w2.heap.size := Nat.le_trans zV1 b2.size
       clear hS bw2 b2 D1 rE1 own1
       have hfolde : List.foldl (fun (cs : Array Value) (x : Value × Nat) => cs.setIfInBounds x.2 x.1) #[Value.int .i64 e.v, Value.int .i64 e.port, Value.int .i64 e.age, Value.int .u8 0, Value.int .u8 0, Value.int .u8 0, Value.int .u8 0, Value.int .u8 0, Value.int .u8 0, Value.bool false] ((u8v e.mac ++ [Value.bool false]).zipIdx 3) = (Value.int .i64 e.v :: (Value.int .i64 e.port :: (Value.int .i64 e.age :: (u8v e.mac ++ [Value.bool false])))).toArray :=
        fold_at (u8v e.mac ++ [Value.bool false]) [Value.int .i64 e.v, Value.int .i64 e.port, Value.int .i64 e.age] [Value.int .u8 0, Value.int .u8 0, Value.int .u8 0, Value.int .u8 0, Value.int .u8 0, Value.int .u8 0, Value.bool false] (by simp)
       have hfoldc : List.foldl (fun (cs : Array Value) (x : Value × Nat) => cs.setIfInBounds x.2 x.1) #[Value.int .i64 c.v, Value.int .i64 c.port, Value.int .i64 c.age, Value.int .u8 0, Value.int .u8 0, Value.int .u8 0, Value.int .u8 0, Value.int .u8 0, Value.int .u8 0, Value.bool false] ((u8v c.mac ++ [Value.bool false]).zipIdx 3) = (Value.int .i64 c.v :: (Value.int .i64 c.port :: (Value.int .i64 c.age :: (u8v c.mac ++ [Value.bool false])))).toArray :=
        fold_at (u8v c.mac ++ [Value.bool false]) [Value.int .i64 c.v, Value.int .i64 c.port, Value.int .i64 c.age] [Value.int .u8 0, Value.int .u8 0, Value.int .u8 0, Value.int .u8 0, Value.int .u8 0, Value.int .u8 0, Value.bool false] (by simp)
       have hle : W.heap.size ≤ w2.heap.size := zV2
       go_wp2_with (at_builtin; refine wpList_appendL rfl rfl Tryz.underlying27 entInfo (by decide) (by decide) W.heap.size _ _ rfl own2 (entC e) rfl (entC_length _) (entC_ones _) HL1.out hle ?_)
       intro v3 w3 o3 b3 f3
       have rE3 := (row_below b3 zW).trans rE2
       have zV3 : W.heap.size ≤ w3.heap.size := Nat.le_trans zV2 b3.size
       have D3 := D2.trans (b3.mono (Nat.le_of_lt zW))
       have zE3 : w.heap.size < w3.heap.size := by omega
       clear rE2 D2 b3 own2 hle
       go_wp2_with (at_builtin; refine wpList_appendL rfl rfl Tryz.underlying27 entInfo (by decide) (by decide) W.heap.size _ _ rfl o3 (entC c) rfl (entC_length _) (entC_ones _) HL2.out zV3 ?_)
       intro v4 w4 o4 b4 f4
       have rE4 := (row_below b4 zW).trans rE3
       have zV4 : W.heap.size ≤ w4.heap.size := Nat.le_trans zV3 b4.size
       have o4m : OwnL w4 W.heap.size 118 10 v4 ((l' ++ [e] ++ [c]).map entC) := by simpa only [List.map_append, List.map_cons, List.map_nil, List.append_assoc, List.cons_append, List.nil_append] using o4
       go_wp2_with fail
       go_roundw
       case rel => exact ⟨k + 1, true, l' ++ [e] ++ [c], by omega, by simp, rfl, o4m, by rw [HTK.out, HKF.out, if_neg Bool.false_ne_true]; exact perm_two HPM.out, D3.trans (b4.mono (Nat.le_of_lt zW)), rE4, zW, zV4⟩
       case measure => simp [intOf]; omega
    | true =>
     cases e2 : (c.mac == e.mac) with
     | true =>
      have hbad := HKF.out
      unfold LB.is at hbad
      rw [beq_iff_eq.1 e1, beq_iff_eq.1 e2] at hbad
      simp at hbad
     | false =>
     go_wp2_with fail
     refine wp_region_beginX [(w.heap.size, (Value.int .i64 e.v :: (Value.int .i64 e.port :: (Value.int .i64 e.age :: (u8v e.mac ++ [Value.bool false])))).toArray)] (fun W => Below w.heap.size w W) hG rfl (by simp only [Rws]; (repeat (first | exact trivial | refine ⟨(by first | assumption | (simp [go_sem, *]; done)), (by first | omega | (simp; done) | (simp; omega)), ?_⟩))) (D0) (fun hS => ?_)
     refine sp 0 hG hS ?_
     refine sp 1 hG hS ?_
     refine sp 2 hG hS ?_
     refine sp 3 hG hS ?_
     refine sp 4 hG hS ?_
     refine sp 5 hG hS ?_
     refine sp 6 hG hS ?_
     refine sp 7 hG hS ?_
     refine sp 8 hG hS ?_
     refine sp 9 hG hS ?_
     refine sp 10 hG hS ?_
     refine sp 11 hG hS ?_
     refine sp 12 hG hS ?_
     refine sp 13 hG hS ?_
     refine sp 14 hG hS ?_
     refine sp 15 hG hS ?_
     refine sp 16 hG hS ?_
     refine sp 17 hG hS ?_
     refine wpAnyR_done (by kernel_rfl) (fun w1 bw1 => ?_) _
     have b1 := below_step (Below.drew (Below.refl _ _)) bw1
     have D1 := D0.trans (b1.mono D0.size)
     have own1 := own0.below b1
     have rE1 := (row_below b1 zE0).trans rE0
     have zE1 : w.heap.size < w1.heap.size := Nat.lt_of_lt_of_le zE0 b1.size
     have zV1 : W.heap.size ≤ w1.heap.size := Nat.le_trans zV0 b1.size
     clear hS bw1 b1 D0 rE0 own0
     cases b with
     | true =>
      go_wp2_with fail
      refine wp_region_beginX [(w.heap.size, (Value.int .i64 e.v :: (Value.int .i64 e.port :: (Value.int .i64 e.age :: (u8v e.mac ++ [Value.bool false])))).toArray)] (fun W => Below w.heap.size w W) hG rfl (by simp only [Rws]; (repeat (first | exact trivial | refine ⟨(by first | assumption | (simp [go_sem, *]; done)), (by first | omega | (simp; done) | (simp; omega)), ?_⟩))) (D1) (fun hS => ?_)
      refine sp 0 hG hS ?_
      refine sp 1 hG hS ?_
      refine sp 2 hG hS ?_
      refine sn 3 hG hS ?_
      refine sn 4 hG hS ?_
      refine sn 5 hG hS ?_
      refine sn 6 hG hS ?_
      refine sn 7 hG hS ?_
      refine sn 8 hG hS ?_
      refine sp 9 hG hS ?_
      refine wpAnyR_done (by kernel_rfl) (fun w2 bw2 => ?_) _
      have b2 := below_step (Below.drew (Below.refl _ _)) bw2
      have D2 := D1.trans (b2.mono D1.size)
      have own2 := own1.below b2
      have rE2 := (row_below b2 zE1).trans rE1
      have zE2 : w.heap.size < w2.heap.size := Nat.lt_of_lt_of_le zE1 b2.size
      have zV2 : W.heap.size ≤ w2.heap.size := Nat.le_trans zV1 b2.size
      clear hS bw2 b2 D1 rE1 own1
      have hfoldc : List.foldl (fun (cs : Array Value) (x : Value × Nat) => cs.setIfInBounds x.2 x.1) #[Value.int .i64 c.v, Value.int .i64 c.port, Value.int .i64 c.age, Value.int .u8 0, Value.int .u8 0, Value.int .u8 0, Value.int .u8 0, Value.int .u8 0, Value.int .u8 0, Value.bool false] ((u8v c.mac ++ [Value.bool false]).zipIdx 3) = (Value.int .i64 c.v :: (Value.int .i64 c.port :: (Value.int .i64 c.age :: (u8v c.mac ++ [Value.bool false])))).toArray :=
       fold_at (u8v c.mac ++ [Value.bool false]) [Value.int .i64 c.v, Value.int .i64 c.port, Value.int .i64 c.age] [Value.int .u8 0, Value.int .u8 0, Value.int .u8 0, Value.int .u8 0, Value.int .u8 0, Value.int .u8 0, Value.bool false] (by simp)
      have hle : W.heap.size ≤ w2.heap.size := zV2
      go_wp2_with (at_builtin; refine wpList_appendL rfl rfl Tryz.underlying27 entInfo (by decide) (by decide) W.heap.size _ _ rfl own2 (entC c) rfl (entC_length _) (entC_ones _) HL1.out hle ?_)
      intro v4 w4 o4 b4 f4
      have rE4 := (row_below b4 zW).trans rE2
      have zV4 : W.heap.size ≤ w4.heap.size := Nat.le_trans zV2 b4.size
      have o4m := o4
      rw [← List.map_singleton (f := entC), ← List.map_append] at o4m
      go_wp2_with fail
      go_roundw
      case rel => exact ⟨k + 1, true, l' ++ [c], by omega, by simp, rfl, o4m, by rw [HTK.out, HKF.out, if_neg Bool.false_ne_true]; exact perm_mid HPM.out, D2.trans (b4.mono (Nat.le_of_lt zW)), rE4, zW, zV4⟩
      case measure => simp [intOf]; omega
     | false =>
      have HC := Lib.hid (fun w => HLS.out c w)
      obtain ⟨r, hr⟩ : ∃ x, lessB e c = x := ⟨_, rfl⟩
      rw [hr] at HC
      clear hr
      cases r with
      | false =>
       go_wp2_with fail
       refine wp_region_beginX [(w.heap.size, (Value.int .i64 e.v :: (Value.int .i64 e.port :: (Value.int .i64 e.age :: (u8v e.mac ++ [Value.bool false])))).toArray)] (fun W => Below w.heap.size w W) hG rfl (by simp only [Rws]; (repeat (first | exact trivial | refine ⟨(by first | assumption | (simp [go_sem, *]; done)), (by first | omega | (simp; done) | (simp; omega)), ?_⟩))) (D1) (fun hS => ?_)
       refine sp 0 hG hS ?_
       refine sp 1 hG hS ?_
       refine sp 2 hG hS ?_
       refine sp 3 hG hS ?_
       refine sp 4 hG hS ?_
       refine sp 5 hG hS ?_
       refine sp 6 hG hS ?_
       refine sp 7 hG hS ?_
       refine sc 8 (v := ?_) hG hS ?_ ?_
       rotate_left
       ·
        intro w' hS'
        obtain ⟨hS', hX'⟩ := hS'
        simp only [Rws] at hS'
        go_simp
        with_reducible refine (HC.out _).mono ?_
        rintro e w'' ⟨rfl, hb⟩
        exact ⟨_, rfl, by rfl, hb⟩
       refine sp 9 hG hS ?_
       refine wpAnyR_done (by kernel_rfl) (fun w2 bw2 => ?_) _
       have b2 := below_step (Below.drew (Below.refl _ _)) bw2
       have D2 := D1.trans (b2.mono D1.size)
       have own2 := own1.below b2
       have rE2 := (row_below b2 zE1).trans rE1
       have zE2 : w.heap.size < w2.heap.size := Nat.lt_of_lt_of_le zE1 b2.size
       have zV2 : W.heap.size ≤ w2.heap.size := Nat.le_trans zV1 b2.size
       clear hS bw2 b2 D1 rE1 own1
       have hfoldc : List.foldl (fun (cs : Array Value) (x : Value × Nat) => cs.setIfInBounds x.2 x.1) #[Value.int .i64 c.v, Value.int .i64 c.port, Value.int .i64 c.age, Value.int .u8 0, Value.int .u8 0, Value.int .u8 0, Value.int .u8 0, Value.int .u8 0, Value.int .u8 0, Value.bool false] ((u8v c.mac ++ [Value.bool false]).zipIdx 3) = (Value.int .i64 c.v :: (Value.int .i64 c.port :: (Value.int .i64 c.age :: (u8v c.mac ++ [Value.bool false])))).toArray :=
        fold_at (u8v c.mac ++ [Value.bool false]) [Value.int .i64 c.v, Value.int .i64 c.port, Value.int .i64 c.age] [Value.int .u8 0, Value.int .u8 0, Value.int .u8 0, Value.int .u8 0, Value.int .u8 0, Value.int .u8 0, Value.bool false] (by simp)
       have hle : W.heap.size ≤ w2.heap.size := zV2
       go_wp2_with (at_builtin; refine wpList_appendL rfl rfl Tryz.underlying27 entInfo (by decide) (by decide) W.heap.size _ _ rfl own2 (entC c) rfl (entC_length _) (entC_ones _) HL1.out hle ?_)
       intro v4 w4 o4 b4 f4
       have rE4 := (row_below b4 zW).trans rE2
       have zV4 : W.heap.size ≤ w4.heap.size := Nat.le_trans zV2 b4.size
       have o4m := o4
       rw [← List.map_singleton (f := entC), ← List.map_append] at o4m
       go_wp2_with fail
       go_roundw
       case rel => exact ⟨k + 1, false, l' ++ [c], by omega, by simp, rfl, o4m, by rw [HTK.out, HKF.out, if_neg Bool.false_ne_true]; exact perm_mid HPM.out, D2.trans (b4.mono (Nat.le_of_lt zW)), rE4, zW, zV4⟩
       case measure => simp [intOf]; omega
      | true =>
       go_wp2_with fail
       refine wp_region_beginX [(w.heap.size, (Value.int .i64 e.v :: (Value.int .i64 e.port :: (Value.int .i64 e.age :: (u8v e.mac ++ [Value.bool false])))).toArray)] (fun W => Below w.heap.size w W) hG rfl (by simp only [Rws]; (repeat (first | exact trivial | refine ⟨(by first | assumption | (simp [go_sem, *]; done)), (by first | omega | (simp; done) | (simp; omega)), ?_⟩))) (D1) (fun hS => ?_)
       refine sp 0 hG hS ?_
       refine sp 1 hG hS ?_
       refine sp 2 hG hS ?_
       refine sp 3 hG hS ?_
       refine sp 4 hG hS ?_
       refine sp 5 hG hS ?_
       refine sp 6 hG hS ?_
       refine sp 7 hG hS ?_
       refine sc 8 (v := ?_) hG hS ?_ ?_
       rotate_left
       ·
        intro w' hS'
        obtain ⟨hS', hX'⟩ := hS'
        simp only [Rws] at hS'
        go_simp
        with_reducible refine (HC.out _).mono ?_
        rintro e w'' ⟨rfl, hb⟩
        exact ⟨_, rfl, by rfl, hb⟩
       refine sp 9 hG hS ?_
       refine wpAnyR_done (by kernel_rfl) (fun w2 bw2 => ?_) _
       have b2 := below_step (Below.drew (Below.refl _ _)) bw2
       have D2 := D1.trans (b2.mono D1.size)
       have own2 := own1.below b2
       have rE2 := (row_below b2 zE1).trans rE1
       have zE2 : w.heap.size < w2.heap.size := Nat.lt_of_lt_of_le zE1 b2.size
       have zV2 : W.heap.size ≤ w2.heap.size := Nat.le_trans zV1 b2.size
       clear hS bw2 b2 D1 rE1 own1
       have hfolde : List.foldl (fun (cs : Array Value) (x : Value × Nat) => cs.setIfInBounds x.2 x.1) #[Value.int .i64 e.v, Value.int .i64 e.port, Value.int .i64 e.age, Value.int .u8 0, Value.int .u8 0, Value.int .u8 0, Value.int .u8 0, Value.int .u8 0, Value.int .u8 0, Value.bool false] ((u8v e.mac ++ [Value.bool false]).zipIdx 3) = (Value.int .i64 e.v :: (Value.int .i64 e.port :: (Value.int .i64 e.age :: (u8v e.mac ++ [Value.bool false])))).toArray :=
        fold_at (u8v e.mac ++ [Value.bool false]) [Value.int .i64 e.v, Value.int .i64 e.port, Value.int .i64 e.age] [Value.int .u8 0, Value.int .u8 0, Value.int .u8 0, Value.int .u8 0, Value.int .u8 0, Value.int .u8 0, Value.bool false] (by simp)
       have hfoldc : List.foldl (fun (cs : Array Value) (x : Value × Nat) => cs.setIfInBounds x.2 x.1) #[Value.int .i64 c.v, Value.int .i64 c.port, Value.int .i64 c.age, Value.int .u8 0, Value.int .u8 0, Value.int .u8 0, Value.int .u8 0, Value.int .u8 0, Value.int .u8 0, Value.bool false] ((u8v c.mac ++ [Value.bool false]).zipIdx 3) = (Value.int .i64 c.v :: (Value.int .i64 c.port :: (Value.int .i64 c.age :: (u8v c.mac ++ [Value.bool false])))).toArray :=
        fold_at (u8v c.mac ++ [Value.bool false]) [Value.int .i64 c.v, Value.int .i64 c.port, Value.int .i64 c.age] [Value.int .u8 0, Value.int .u8 0, Value.int .u8 0, Value.int .u8 0, Value.int .u8 0, Value.int .u8 0, Value.bool false] (by simp)
       have hle : W.heap.size ≤ w2.heap.size := zV2
       go_wp2_with (at_builtin; refine wpList_appendL rfl rfl Tryz.underlying27 entInfo (by decide) (by decide) W.heap.size _ _ rfl own2 (entC e) rfl (entC_length _) (entC_ones _) HL1.out hle ?_)
       intro v3 w3 o3 b3 f3
       have rE3 := (row_below b3 zW).trans rE2
       have zV3 : W.heap.size ≤ w3.heap.size := Nat.le_trans zV2 b3.size
       have D3 := D2.trans (b3.mono (Nat.le_of_lt zW))
       have zE3 : w.heap.size < w3.heap.size := by omega
       clear rE2 D2 b3 own2 hle
       go_wp2_with (at_builtin; refine wpList_appendL rfl rfl Tryz.underlying27 entInfo (by decide) (by decide) W.heap.size _ _ rfl o3 (entC c) rfl (entC_length _) (entC_ones _) HL2.out zV3 ?_)
       intro v4 w4 o4 b4 f4
       have rE4 := (row_below b4 zW).trans rE3
       have zV4 : W.heap.size ≤ w4.heap.size := Nat.le_trans zV3 b4.size
       have o4m : OwnL w4 W.heap.size 118 10 v4 ((l' ++ [e] ++ [c]).map entC) := by simpa only [List.map_append, List.map_cons, List.map_nil, List.append_assoc, List.cons_append, List.nil_append] using o4
       go_wp2_with fail
       go_roundw
       case rel => exact ⟨k + 1, true, l' ++ [e] ++ [c], by omega, by simp, rfl, o4m, by rw [HTK.out, HKF.out, if_neg Bool.false_ne_true]; exact perm_two HPM.out, D3.trans (b4.mono (Nat.le_of_lt zW)), rE4, zW, zV4⟩
       case measure => simp [intOf]; omega
  ·
   obtain rfl : k = m.length := by omega
   rw [List.take_of_length_le (Nat.le_refl _)] at HPM
   have own0 := hown
   have rE0 := rE
   clear hown rE
   cases b with
   | true =>
    obtain ⟨oa, oc, oe, hel⟩ := own0.elems
    subst oe
    have HEL := Lib.hid hel
    go_wp2_with fail
    go_ret
    first | exact ⟨⟨_, l', rfl, ⟨oa, oc, rfl, HEL.out⟩, HPM.out.trans HPP.out⟩, D⟩ | exact ⟨⟨_, rfl, l', ⟨oa, oc, rfl, HEL.out⟩, HPM.out.trans HPP.out⟩, D⟩ | (refine ⟨⟨_, rfl, l', ⟨oa, oc, ?_, HEL.out⟩, HPM.out.trans HPP.out⟩, D⟩; simp)
   | false =>
    have hle : W.heap.size ≤ wr.heap.size := zV
    have hfolde : List.foldl (fun (cs : Array Value) (x : Value × Nat) => cs.setIfInBounds x.2 x.1) #[Value.int .i64 e.v, Value.int .i64 e.port, Value.int .i64 e.age, Value.int .u8 0, Value.int .u8 0, Value.int .u8 0, Value.int .u8 0, Value.int .u8 0, Value.int .u8 0, Value.bool false] ((u8v e.mac ++ [Value.bool false]).zipIdx 3) = (Value.int .i64 e.v :: (Value.int .i64 e.port :: (Value.int .i64 e.age :: (u8v e.mac ++ [Value.bool false])))).toArray :=
     fold_at (u8v e.mac ++ [Value.bool false]) [Value.int .i64 e.v, Value.int .i64 e.port, Value.int .i64 e.age] [Value.int .u8 0, Value.int .u8 0, Value.int .u8 0, Value.int .u8 0, Value.int .u8 0, Value.int .u8 0, Value.bool false] (by simp)
    go_wp2_with (at_builtin; refine wpList_appendL rfl rfl Tryz.underlying27 entInfo (by decide) (by decide) W.heap.size _ _ rfl own0 (entC e) rfl (entC_length _) (entC_ones _) HL1.out hle ?_)
    intro v4 w4 o4 b4 f4
    have D4 := D.trans (b4.mono (Nat.le_of_lt zW))
    have o4m : OwnL w4 W.heap.size 118 10 v4 ((l' ++ [e]).map entC) := by rw [List.map_append]; exact o4
    obtain ⟨oa, oc, oe, hel⟩ := o4m.elems
    subst oe
    have HEL := Lib.hid hel
    have hpe := HPM.out
    rw [if_neg Bool.false_ne_true, List.append_nil] at hpe
    have HPE := Lib.hid ((hpe.append_right [e]).trans HPP.out)
    clear hpe hel
    go_wp2_with fail
    go_ret
    first | exact ⟨⟨_, l' ++ [e], rfl, ⟨oa, oc, rfl, HEL.out⟩, HPE.out⟩, D4⟩ | exact ⟨⟨_, rfl, l' ++ [e], ⟨oa, oc, rfl, HEL.out⟩, HPE.out⟩, D4⟩ | (refine ⟨⟨_, rfl, l' ++ [e], ⟨oa, oc, ?_, HEL.out⟩, HPE.out⟩, D4⟩; simp)
end
section
open Go.RowKit
set_option maxRecDepth 20000 in
set_option maxHeartbeats 4000000 in
theorem r20May_ok (v : Int) (mac : Vector UInt8 6) (k n : Nat) (m : List LB) (a la : Option Addr) (cap lcap : Nat) (w : World) (h : ElemsAt w a 10 (m.map entC)) (hm : m.length ≤ 1000) (hv1 : 1 ≤ v) (hv2 : v ≤ 4094) (hg : mac[0].toNat % 2 = 0) (hk : k < n) (hn : n ≤ 64) :
  Calls Tryz.prog 76 #[.slice a m.length cap, .slice la n lcap, .int .i64 v, .agg (u8v mac).toArray, .int .i64 (k : Int)] w fun e w' => e = .returned (.int .i64 0) ∧ Below w.heap.size w w' := by
 have hmI : (m.length : Int) ≤ 1000 := by omega
 have f1 := decide_eq_false (show ¬ v < 1 by omega)
 have f2 := decide_eq_false (show ¬ 4094 < v by omega)
 have hkI : ¬ (n : Int) ≤ (k : Int) := by omega
 have f3 := decide_eq_false hkI
 have hk0 : ¬ (k : Int) < 0 := by omega
 have f4 := decide_eq_false hk0
 obtain ⟨x, hx⟩ : ∃ x, mac[0] = x := ⟨_, rfl⟩
 rw [hx] at hg
 have hx2 := x.toNat_lt
 have f5 : (x.toNat : Int).tmod 2 = 0 := by rw [Int.tmod_eq_emod_of_nonneg (by omega)]; omega
 have HF := Lib.hid (fun w (h : ElemsAt w a 10 (m.map entC)) => r20Find_any v mac m a cap w h hm)
 have h0 : (u8v mac)[0]? = some (.int .u8 (x.toNat : Int)) := by rw [← hx]; simp [u8v, u8s]
 obtain ⟨q, hq⟩ : ∃ x, posI v mac m = x := ⟨_, rfl⟩
 rw [hq] at HF
 have HQ := Lib.hid hq
 clear hq hx hg
 go_enter Tryz.func76, Tryz.ntmps76
 obtain ⟨W, hW⟩ : ∃ W, w.alloc (.cells (u8v mac).toArray 64) = W := ⟨_, rfl⟩
 have bW : Below w.heap.size w W := by rw [← hW]; exact Below.alloc (Below.refl _ _) (Nat.le_refl _) _
 have rQ : row W w.heap.size = (u8v mac).toArray := by rw [← hW]; exact row_alloc_at _ _ _ rfl
 have zW : w.heap.size < W.heap.size := by rw [← hW, alloc_sizeW]; omega
 have c0 : W.cell? ⟨w.heap.size, 0, none⟩ = some (.int .u8 (x.toNat : Int)) := by rw [cell_of_row' (by rw [rQ]; simp), rQ, List.getElem?_toArray, h0]
 have hh := h.below bW
 go_wp2_with fail
 (try rw [hW])
 (with_reducible refine (HF.out _ hh).mono ?_)
 rintro e w1 ⟨rfl, b1⟩
 have B1 := bW.trans (b1.mono bW.size)
 have h1 := h.below B1
 clear hW hh h c0 rQ
 by_cases hf : (m.findIdx fun b => b.is v mac) < m.length
 ·
  obtain ⟨j, hj⟩ : ∃ x, (m.findIdx fun b => b.is v mac) = x := ⟨_, rfl⟩
  rw [hj] at hf
  have hqj : q = (j : Int) := by rw [← HQ.out]; unfold posI; rw [hj, if_pos hf]
  subst hqj
  obtain ⟨b0, off, rfl, hb, hrange⟩ := ent_of h1 hf
  obtain ⟨c, hc⟩ : ∃ c, m[j] = c := ⟨_, rfl⟩
  rw [hc] at hrange
  obtain ⟨o, ho⟩ : ∃ o, off + j * 10 = o := ⟨_, rfl⟩
  rw [ho] at hrange
  have g9 : w1.cell? ⟨b0, o + 9, none⟩ = some (.bool false) := hrange w1 rfl 9 _ (by simp [entC])
  have hjI : (j : Int) < (m.length : Int) := by omega
  have hj0 := decide_eq_true (show (0 : Int) ≤ (j : Int) by omega)
  clear hrange hc hj
  go_wp2_with fail
  go_ret
  exact ⟨rfl, B1⟩
 ·
  have hqj : q = -1 := by rw [← HQ.out]; unfold posI; rw [if_neg hf]
  subst hqj
  go_wp2_with fail
  go_ret
  exact ⟨rfl, B1⟩
end
section
open Go.RowKit
def cntL (v : Int) (mac : Vector UInt8 6) (p : Int) (l : List LB) : Nat := (l.filter fun c => c.port == p && !c.is v mac).length
theorem cntL_snoc (v : Int) (mac : Vector UInt8 6) (p : Int) (l : List LB) (c : LB) : cntL v mac p (l ++ [c]) = cntL v mac p l + (if c.port == p && !c.is v mac then 1 else 0) := by
 unfold cntL
 rw [List.filter_append, List.length_append]
 congr 1
 cases h : (c.port == p && !c.is v mac) <;> simp [h]
theorem cntL_le (v : Int) (mac : Vector UInt8 6) (p : Int) (l : List LB) : cntL v mac p l ≤ l.length := List.length_filter_le _ _
theorem cnt_on {v : Int} {mac : Vector UInt8 6} {p : Int} {l : List LB} (h : ∀ c ∈ l, c.is v mac = true → c.port ≠ p) : cntL v mac p l = onL p l := by
 unfold cntL onL
 congr 1
 apply List.filter_congr
 intro c hc
 cases hi : c.is v mac with
 | false => simp
 | true =>
  have := h c hc hi
  rw [beq_eq_false_iff_ne.2 this]
  rfl
theorem find_pos {v : Int} {mac : Vector UInt8 6} : ∀ {m : List LB} {j : Nat} (hj : j < m.length), (m.findIdx fun b => b.is v mac) = j → findL v mac m = some m[j]
 | [], j, hj, _ => by simp at hj
 | c :: m, j, hj, h => by
  unfold findL
  rw [List.findIdx_cons] at h
  rw [List.find?_cons]
  cases hc : c.is v mac with
  | true =>
   rw [hc] at h
   subst h
   rfl
  | false =>
   rw [hc] at h
   subst h
   exact find_pos (m := m) (by simpa using hj) rfl
theorem find_no {v : Int} {mac : Vector UInt8 6} {m : List LB} (h : ¬ (m.findIdx fun b => b.is v mac) < m.length) : findL v mac m = none ∧ ∀ c ∈ m, c.is v mac = false := by
 have h1 : ∀ c ∈ m, c.is v mac = false := by
  intro c hc
  rw [Bool.eq_false_iff]
  intro hi
  exact h (List.findIdx_lt_length_of_exists ⟨c, hc, hi⟩)
 refine ⟨?_, h1⟩
 unfold findL
 rw [List.find?_eq_none]
 intro c hc
 rw [h1 c hc]
 decide
theorem dist_uniq {v : Int} {mac : Vector UInt8 6} : ∀ {m : List LB}, DistL m → ∀ {c : LB}, findL v mac m = some c → ∀ d ∈ m, d.is v mac = true → d = c
 | [], _, _, h, _, hd, _ => by cases hd
 | a :: m, hD, c, h, d, hd, hi => by
  rw [DistL, List.pairwise_cons] at hD
  unfold findL at h
  rw [List.find?_cons] at h
  cases ha : a.is v mac with
  | true =>
   rw [ha] at h
   cases h
   rcases List.mem_cons.1 hd with e | e
   ·
    exact e
   ·
    have h1 := hD.1 d e
    simp only [LB.is, Bool.and_eq_true, beq_iff_eq] at hi
    rw [← hi.1, ← hi.2, ha] at h1
    cases h1
  | false =>
   rw [ha] at h
   rcases List.mem_cons.1 hd with e | e
   ·
    rw [e, ha] at hi
    cases hi
   ·
    exact dist_uniq hD.2 h d e hi
set_option maxRecDepth 20000 in
set_option maxHeartbeats 8000000 in
theorem r20Count (v : Int) (mac : Vector UInt8 6) (k : Nat) (m : List LB) (lims : List Int) (a la : Option Addr) (cap lcap : Nat) (w : World) (h : ElemsAt w a 10 (m.map entC)) (hL : IntsAt w la lims) (hm : m.length ≤ 900) (hd : DistL m) (hv1 : 1 ≤ v) (hv2 : v ≤ 4094) (hg : mac[0].toNat % 2 = 0) (hk : k < lims.length) (hn : lims.length ≤ 64) :
  Calls Tryz.prog 41 #[.slice a m.length cap, .slice la lims.length lcap, .int .i64 v, .agg (u8v mac).toArray, .int .i64 (k : Int)] w fun e w' => (∃ (v' : Value) (l' : List LB), (∃ c : Int, e = .returned (.tuple #[v', .int .i64 c])) ∧ SlL w' 10 v' (l'.map entC) ∧ l'.Perm (hearL lims[k] v mac k m)) ∧ Below w.heap.size w w' := by
 have hmI : (m.length : Int) ≤ 900 := by omega
 have HM := Lib.hid (fun w (h : ElemsAt w a 10 (m.map entC)) => r20May_ok v mac k lims.length m a la cap lcap w h (by omega) hv1 hv2 hg hk hn)
 have HF := Lib.hid (fun w (h : ElemsAt w a 10 (m.map entC)) => r20Find_any v mac m a cap w h (by omega))
 have HPT0 := fun w (h : ElemsAt w a 10 (m.map entC)) => r20Put_any ⟨v, mac, k, 0⟩ m a cap w h (by omega) hd
 obtain ⟨lim, hlim⟩ : ∃ x, lims[k] = x := ⟨_, rfl⟩
 rw [hlim]
 have HLIM := Lib.hid hlim
 clear hlim
 have e0 : entC ⟨v, mac, k, 0⟩ = .int .i64 v :: .int .i64 (k : Int) :: (zeros 1 (.int .i64 0) ++ (u8v mac ++ [.bool false])) := rfl
 simp only [e0] at HPT0
 have HPT := Lib.hid HPT0
 clear HPT0 e0
 go_enter Tryz.func41, Tryz.ntmps41
 obtain ⟨W, hW⟩ : ∃ W, w.alloc (.cells (u8v mac).toArray 64) = W := ⟨_, rfl⟩
 have bW : Below w.heap.size w W := by rw [← hW]; exact Below.alloc (Below.refl _ _) (Nat.le_refl _) _
 have rQ : row W w.heap.size = (u8v mac).toArray := by rw [← hW]; exact row_alloc_at _ _ _ rfl
 have zW : w.heap.size < W.heap.size := by rw [← hW, alloc_sizeW]; omega
 have hh := h.below bW
 go_wp2_with fail
 (try rw [hW])
 (with_reducible refine (HM.out _ hh).mono ?_)
 rintro e w1 ⟨rfl, b1⟩
 have B1 := bW.trans (b1.mono bW.size)
 have rQ1 := (row_below b1 zW).trans rQ
 have zQ1 : w.heap.size < w1.heap.size := Nat.lt_of_lt_of_le zW b1.size
 clear hW hh rQ bW b1 zW
 go_wp2_with fail
 go_loopw [13, 14] (fun nv i wr => ∃ j n : Nat, j ≤ m.length ∧ i = .int .i64 j ∧ nv = .int .i64 n ∧ n = cntL v mac k (m.take j) ∧ Below w.heap.size w wr ∧ row wr w.heap.size = (u8v mac).toArray ∧ w.heap.size < wr.heap.size) (fun _ i _ => m.length - (intOf i).toNat)
 case atStart => exact ⟨0, 0, by omega, rfl, rfl, rfl, B1, rQ1, zQ1⟩
 case round =>
  clear B1 rQ1 zQ1
  obtain ⟨j, n, hj, rfl, rfl, hnc, D0, rE0, zE0⟩ := hrel
  have hn9 : n ≤ 900 := by rw [hnc]; have := cntL_le v mac k (m.take j); rw [List.length_take] at this; omega
  have HNC := Lib.hid hnc
  clear hnc
  by_cases hlt : j < m.length
  ·
   have hjI : (j : Int) < (m.length : Int) := by omega
   obtain ⟨b0, off, rfl, hb, hrange⟩ := ent_of h hlt
   obtain ⟨c, hc⟩ : ∃ c, m[j] = c := ⟨_, rfl⟩
   have HTK := Lib.hid (show cntL v mac k (m.take (j + 1)) = cntL v mac k (m.take j) + (if c.port == (k : Int) && !c.is v mac then 1 else 0) by rw [List.take_succ_eq_append_getElem hlt, hc, cntL_snoc])
   rw [hc] at hrange
   obtain ⟨o, ho⟩ : ∃ o, off + j * 10 = o := ⟨_, rfl⟩
   rw [ho] at hrange
   have g0 : ∀ W, Below w.heap.size w W → W.cell? ⟨b0, o, none⟩ = some (.int .i64 c.v) := fun W hW => hrange W (blk_below hW hb) 0 _ rfl
   have g1 : ∀ W, Below w.heap.size w W → W.cell? ⟨b0, o + 1, none⟩ = some (.int .i64 c.port) := fun W hW => hrange W (blk_below hW hb) 1 _ rfl
   have g9 : ∀ W, Below w.heap.size w W → W.cell? ⟨b0, o + 9, none⟩ = some (.bool false) := fun W hW => hrange W (blk_below hW hb) 9 _ (by simp [entC])
   have gm : ∀ W, Below w.heap.size w W → (loadS 64 (.pointer (some ⟨b0, o + 3, none⟩))).run Tryz.prog W = .ok (.agg (u8v c.mac).toArray) W := fun W hW => run_loadS_at (rangeAt_part (l := [Value.int .i64 c.v, Value.int .i64 c.port, Value.int .i64 c.age]) (m := u8v c.mac) (r := [Value.bool false]) (hrange W (blk_below hW hb)) rfl) (by simp)
   have hG : GrowP fun W => Below w.heap.size w W := grow_base w
   clear hrange hc h
   cases p1 : (c.port == (k : Int)) with
   | false =>
    have HI := Lib.hid (show (c.port == (k : Int) && !c.is v mac) = false by rw [p1]; rfl)
    go_wp2_with fail
    refine wp_region_beginX [(w.heap.size, (u8v mac).toArray)] (fun W => Below w.heap.size w W) hG rfl (by simp only [Rws]; (repeat (first | exact trivial | refine ⟨(by first | assumption | (simp [go_sem, *]; done)), (by first | omega | (simp; done) | (simp; omega)), ?_⟩))) (D0) (fun hS => ?_)
    refine sp 0 hG hS ?_
    refine sp 1 hG hS ?_
    refine sp 2 hG hS ?_
    refine sp 3 hG hS ?_
    refine sp 4 hG hS ?_
    refine sp 5 hG hS ?_
    refine sp 6 hG hS ?_
    refine sp 7 hG hS ?_
    refine sn 8 hG hS ?_
    refine sn 9 hG hS ?_
    refine sn 10 hG hS ?_
    refine sn 11 hG hS ?_
    refine sn 12 hG hS ?_
    refine sn 13 hG hS ?_
    refine sp 14 hG hS ?_
    refine sp 15 hG hS ?_
    refine sn 16 hG hS ?_
    refine sn 17 hG hS ?_
    refine sn 18 hG hS ?_
    refine sn 19 hG hS ?_
    refine sn 20 hG hS ?_
    refine sn 21 hG hS ?_
    refine sn 22 hG hS ?_
    refine sn 23 hG hS ?_
    refine sn 24 hG hS ?_
    refine sn 25 hG hS ?_
    refine sn 26 hG hS ?_
    refine sn 27 hG hS ?_
    refine sn 28 hG hS ?_
    refine sn 29 hG hS ?_
    refine sn 30 hG hS ?_
    refine sn 31 hG hS ?_
    refine sp 32 hG hS ?_
    refine wpAnyR_done (by kernel_rfl) (fun w1 bw1 => ?_) _
    have b1 := below_step (Below.drew (Below.refl _ _)) bw1
    have D1 := D0.trans (b1.mono D0.size)
    have rE1 := (row_below b1 zE0).trans rE0
    have zE1 : w.heap.size < w1.heap.size := Nat.lt_of_lt_of_le zE0 b1.size
    clear hS bw1 b1 D0 rE0 zE0
    go_wp2_with fail
    go_roundw
    case rel => exact ⟨j + 1, n, by omega, by simp, by simp, by rw [HTK.out, ← HNC.out, HI.out]; rfl, D1, rE1, zE1⟩
    case measure => simp [intOf]; omega
   | true =>
    cases e1 : (c.v == v) with
    | false =>
     have e1b : (c.v != v) = true := by simp only [bne, e1]; rfl
     have HI := Lib.hid (show (c.port == (k : Int) && !c.is v mac) = true by rw [p1, show c.is v mac = false by unfold LB.is; rw [Bool.and_eq_false_iff]; left; rw [beq_eq_false_iff_ne] at e1 ⊢; exact Ne.symm e1]; rfl)
     go_wp2_with fail
     refine wp_region_beginX [(w.heap.size, (u8v mac).toArray)] (fun W => Below w.heap.size w W) hG rfl (by simp only [Rws]; (repeat (first | exact trivial | refine ⟨(by first | assumption | (simp [go_sem, *]; done)), (by first | omega | (simp; done) | (simp; omega)), ?_⟩))) (D0) (fun hS => ?_)
     refine sp 0 hG hS ?_
     refine sp 1 hG hS ?_
     refine sp 2 hG hS ?_
     refine sp 3 hG hS ?_
     refine sp 4 hG hS ?_
     refine sp 5 hG hS ?_
     refine sp 6 hG hS ?_
     refine sp 7 hG hS ?_
     refine sp 8 hG hS ?_
     refine sp 9 hG hS ?_
     refine sp 10 hG hS ?_
     refine sp 11 hG hS ?_
     refine sp 12 hG hS ?_
     refine sp 13 hG hS ?_
     refine sp 14 hG hS ?_
     refine sp 15 hG hS ?_
     refine sp 16 hG hS ?_
     refine sp 17 hG hS ?_
     refine sp 18 hG hS ?_
     refine sp 19 hG hS ?_
     refine sp 20 hG hS ?_
     refine sp 21 hG hS ?_
     refine sp 22 hG hS ?_
     refine sp 23 hG hS ?_
     refine sn 24 hG hS ?_
     refine sn 25 hG hS ?_
     refine sn 26 hG hS ?_
     refine sn 27 hG hS ?_
     refine sn 28 hG hS ?_
     refine sn 29 hG hS ?_
     refine sn 30 hG hS ?_
     refine sp 31 hG hS ?_
     refine sp 32 hG hS ?_
     refine wpAnyR_done (by kernel_rfl) (fun w1 bw1 => ?_) _
     have b1 := below_step (Below.drew (Below.refl _ _)) bw1
     have D1 := D0.trans (b1.mono D0.size)
     have rE1 := (row_below b1 zE0).trans rE0
     have zE1 : w.heap.size < w1.heap.size := Nat.lt_of_lt_of_le zE0 b1.size
     clear hS bw1 b1 D0 rE0 zE0
     go_wp2_with fail
     go_roundw
     case rel => exact ⟨j + 1, n + 1, by omega, by simp, by simp, by rw [HTK.out, ← HNC.out, HI.out]; rfl, D1, rE1, zE1⟩
     case measure => simp [intOf]; omega
    | true =>
     have e1b : (c.v != v) = false := by simp only [bne, e1]; rfl
     cases e2 : (c.mac == mac) with
     | false =>
      have e2b : (c.mac != mac) = true := by simp only [bne, e2]; rfl
      have HI := Lib.hid (show (c.port == (k : Int) && !c.is v mac) = true by rw [p1, show c.is v mac = false by unfold LB.is; rw [Bool.and_eq_false_iff]; right; rw [beq_eq_false_iff_ne] at e2 ⊢; exact Ne.symm e2]; rfl)
      go_wp2_with fail
      refine wp_region_beginX [(w.heap.size, (u8v mac).toArray)] (fun W => Below w.heap.size w W) hG rfl (by simp only [Rws]; (repeat (first | exact trivial | refine ⟨(by first | assumption | (simp [go_sem, *]; done)), (by first | omega | (simp; done) | (simp; omega)), ?_⟩))) (D0) (fun hS => ?_)
      refine sp 0 hG hS ?_
      refine sp 1 hG hS ?_
      refine sp 2 hG hS ?_
      refine sp 3 hG hS ?_
      refine sp 4 hG hS ?_
      refine sp 5 hG hS ?_
      refine sp 6 hG hS ?_
      refine sp 7 hG hS ?_
      refine sp 8 hG hS ?_
      refine sp 9 hG hS ?_
      refine sp 10 hG hS ?_
      refine sp 11 hG hS ?_
      refine sp 12 hG hS ?_
      refine sp 13 hG hS ?_
      refine sp 14 hG hS ?_
      refine sp 15 hG hS ?_
      refine sp 16 hG hS ?_
      refine sp 17 hG hS ?_
      refine sp 18 hG hS ?_
      refine sp 19 hG hS ?_
      refine sp 20 hG hS ?_
      refine sp 21 hG hS ?_
      refine sp 22 hG hS ?_
      refine sp 23 hG hS ?_
      refine sp 24 hG hS ?_
      refine sp 25 hG hS ?_
      refine sp 26 hG hS ?_
      refine sp 27 hG hS ?_
      refine sp 28 hG hS ?_
      refine sp 29 hG hS ?_
      refine sp 30 hG hS ?_
      refine sp 31 hG hS ?_
      refine sp 32 hG hS ?_
      refine wpAnyR_done (by kernel_rfl) (fun w1 bw1 => ?_) _
      have b1 := below_step (Below.drew (Below.refl _ _)) bw1
      have D1 := D0.trans (b1.mono D0.size)
      have rE1 := (row_below b1 zE0).trans rE0
      have zE1 : w.heap.size < w1.heap.size := Nat.lt_of_lt_of_le zE0 b1.size
      clear hS bw1 b1 D0 rE0 zE0
      go_wp2_with fail
      go_roundw
      case rel => exact ⟨j + 1, n + 1, by omega, by simp, by simp, by rw [HTK.out, ← HNC.out, HI.out]; rfl, D1, rE1, zE1⟩
      case measure => simp [intOf]; omega
     | true =>
      have e2b : (c.mac != mac) = false := by simp only [bne, e2]; rfl
      have HI := Lib.hid (show (c.port == (k : Int) && !c.is v mac) = false by rw [p1, show c.is v mac = true by unfold LB.is; rw [beq_iff_eq.1 e1, beq_iff_eq.1 e2]; simp]; rfl)
      go_wp2_with fail
      refine wp_region_beginX [(w.heap.size, (u8v mac).toArray)] (fun W => Below w.heap.size w W) hG rfl (by simp only [Rws]; (repeat (first | exact trivial | refine ⟨(by first | assumption | (simp [go_sem, *]; done)), (by first | omega | (simp; done) | (simp; omega)), ?_⟩))) (D0) (fun hS => ?_)
      refine sp 0 hG hS ?_
      refine sp 1 hG hS ?_
      refine sp 2 hG hS ?_
      refine sp 3 hG hS ?_
      refine sp 4 hG hS ?_
      refine sp 5 hG hS ?_
      refine sp 6 hG hS ?_
      refine sp 7 hG hS ?_
      refine sp 8 hG hS ?_
      refine sp 9 hG hS ?_
      refine sp 10 hG hS ?_
      refine sp 11 hG hS ?_
      refine sp 12 hG hS ?_
      refine sp 13 hG hS ?_
      refine sp 14 hG hS ?_
      refine sp 15 hG hS ?_
      refine sp 16 hG hS ?_
      refine sp 17 hG hS ?_
      refine sp 18 hG hS ?_
      refine sp 19 hG hS ?_
      refine sp 20 hG hS ?_
      refine sp 21 hG hS ?_
      refine sp 22 hG hS ?_
      refine sp 23 hG hS ?_
      refine sp 24 hG hS ?_
      refine sp 25 hG hS ?_
      refine sp 26 hG hS ?_
      refine sp 27 hG hS ?_
      refine sp 28 hG hS ?_
      refine sp 29 hG hS ?_
      refine sp 30 hG hS ?_
      refine sp 31 hG hS ?_
      refine sp 32 hG hS ?_
      refine wpAnyR_done (by kernel_rfl) (fun w1 bw1 => ?_) _
      have b1 := below_step (Below.drew (Below.refl _ _)) bw1
      have D1 := D0.trans (b1.mono D0.size)
      have rE1 := (row_below b1 zE0).trans rE0
      have zE1 : w.heap.size < w1.heap.size := Nat.lt_of_lt_of_le zE0 b1.size
      clear hS bw1 b1 D0 rE0 zE0
      go_wp2_with fail
      go_roundw
      case rel => exact ⟨j + 1, n, by omega, by simp, by simp, by rw [HTK.out, ← HNC.out, HI.out]; rfl, D1, rE1, zE1⟩
      case measure => simp [intOf]; omega
  ·
   obtain rfl : j = m.length := by omega
   rw [List.take_of_length_le (Nat.le_refl _)] at HNC
   have hDm := h.below D0
   go_wp2_with fail
   (with_reducible refine (HF.out _ hDm).mono ?_)
   rintro e w2 ⟨rfl, b2⟩
   have D2 := D0.trans (b2.mono D0.size)
   have rE2 := (row_below b2 zE0).trans rE0
   have zE2 : w.heap.size < w2.heap.size := Nat.lt_of_lt_of_le zE0 b2.size
   have hG : GrowP fun W => Below w.heap.size w W := grow_base w
   have hEA := h.below D2
   obtain ⟨lb, lo, rfl, hlb, hlc0⟩ := hL.get hk
   have hlc : ∀ W, Below w.heap.size w W → W.cell? ⟨lb, lo + k, none⟩ = some (.int .i64 lims[k]) := by
    intro W hW
    obtain ⟨lb', lo', e', _, h'⟩ := (hL.below hW).get hk
    cases e'
    exact h'
   rw [HLIM.out] at hlc
   have hkI : (k : Int) < (lims.length : Int) := by omega
   clear b2 D0 rE0 zE0 hDm hlc0 hL
   by_cases hf : (m.findIdx fun b => b.is v mac) < m.length
   ·
    obtain ⟨jx, hjx⟩ : ∃ x, (m.findIdx fun b => b.is v mac) = x := ⟨_, rfl⟩
    have hjl : jx < m.length := by rw [← hjx]; exact hf
    have hjI : (jx : Int) < (m.length : Int) := by omega
    have hj0 : ¬ (jx : Int) < 0 := by omega
    have hj0b := decide_eq_false hj0
    have hq : posI v mac m = (jx : Int) := by unfold posI; rw [if_pos hf, hjx]
    rw [hq]
    have hfn := find_pos hjl hjx
    obtain ⟨b0, off, rfl, hb, hrange⟩ := ent_of h hjl
    obtain ⟨c, hc⟩ : ∃ c, m[jx] = c := ⟨_, rfl⟩
    rw [hc] at hrange hfn
    obtain ⟨o, ho⟩ : ∃ o, off + jx * 10 = o := ⟨_, rfl⟩
    rw [ho] at hrange
    have g1 : ∀ W, Below w.heap.size w W → W.cell? ⟨b0, o + 1, none⟩ = some (.int .i64 c.port) := fun W hW => hrange W (blk_below hW hb) 1 _ rfl
    have HUQ := Lib.hid (dist_uniq hd hfn)
    have HFN := Lib.hid hfn
    clear hrange hq hf hfn hc hjx
    cases p1 : (c.port == (k : Int)) with
    | true =>
     have p1b : (c.port != (k : Int)) = false := by simp only [bne, p1]; rfl
     have HH := Lib.hid (show hearL lim v mac k m = putL ⟨v, mac, k, 0⟩ m by unfold hearL; rw [HFN.out]; simp only [p1]; rfl)
     go_wp2_with fail
     (with_reducible refine (HPT.out _ hEA).mono ?_)
     rintro e w4 ⟨⟨v', l', rfl, ⟨a', cap', rfl, he'⟩, hpm⟩, b4⟩
     go_wp2_with fail
     go_ret2
     exact ⟨⟨_, l', ⟨_, rfl⟩, ⟨a', cap', by rw [List.length_map]; rfl, he'⟩, by rw [HH.out]; exact hpm⟩, D2.trans (b4.mono D2.size)⟩
    | false =>
     have p1b : (c.port != (k : Int)) = true := by simp only [bne, p1]; rfl
     have hon := cnt_on (p := (k : Int)) (fun c2 hc2 hi => by rw [HUQ.out c2 hc2 hi]; simpa using p1)
     have HON := Lib.hid (HNC.out.trans hon)
     clear hon
     by_cases hl : lim ≤ (n : Int)
     ·
      have hlb2 := decide_eq_true hl
      have HH := Lib.hid (show hearL lim v mac k m = m by unfold hearL; rw [HFN.out, ← HON.out, decide_eq_false (show ¬ (n : Int) < lim by omega)]; simp only [p1]; rfl)
      go_wp2_with fail
      have HEL := Lib.hid (h.below D2)
      go_ret2
      exact ⟨⟨_, m, ⟨_, rfl⟩, ⟨_, cap, by rw [List.length_map]; rfl, HEL.out⟩, by rw [HH.out]⟩, D2⟩
     ·
      have hlb2 := decide_eq_false hl
      have HH := Lib.hid (show hearL lim v mac k m = putL ⟨v, mac, k, 0⟩ m by unfold hearL; rw [HFN.out, ← HON.out, decide_eq_true (show (n : Int) < lim by omega)]; simp only [p1]; rfl)
      go_wp2_with fail
      (with_reducible refine (HPT.out _ hEA).mono ?_)
      rintro e w4 ⟨⟨v', l', rfl, ⟨a', cap', rfl, he'⟩, hpm⟩, b4⟩
      go_wp2_with fail
      go_ret2
      exact ⟨⟨_, l', ⟨_, rfl⟩, ⟨a', cap', by rw [List.length_map]; rfl, he'⟩, by rw [HH.out]; exact hpm⟩, D2.trans (b4.mono D2.size)⟩
   ·
    obtain ⟨hfn, hno⟩ := find_no hf
    have hq : posI v mac m = -1 := by unfold posI; rw [if_neg hf]
    rw [hq]
    have hon := cnt_on (p := (k : Int)) (fun c hc hi => absurd hi (by rw [hno c hc]; decide))
    have HON := Lib.hid (HNC.out.trans hon)
    have HFN := Lib.hid hfn
    clear hon hfn hno hq hf
    by_cases hl : lim ≤ (n : Int)
    ·
     have hlb2 := decide_eq_true hl
     have HH := Lib.hid (show hearL lim v mac k m = m by unfold hearL; rw [HFN.out, ← HON.out, decide_eq_false (by omega)]; rfl)
     go_wp2_with fail
     have HEL := Lib.hid (h.below D2)
     go_ret2
     exact ⟨⟨_, m, ⟨_, rfl⟩, ⟨_, cap, by rw [List.length_map]; rfl, HEL.out⟩, by rw [HH.out]⟩, D2⟩
    ·
     have hlb2 := decide_eq_false hl
     have HH := Lib.hid (show hearL lim v mac k m = putL ⟨v, mac, k, 0⟩ m by unfold hearL; rw [HFN.out, ← HON.out, decide_eq_true (show (n : Int) < lim by omega)]; rfl)
     go_wp2_with fail
     (with_reducible refine (HPT.out _ hEA).mono ?_)
     rintro e w4 ⟨⟨v', l', rfl, ⟨a', cap', rfl, he'⟩, hpm⟩, b4⟩
     go_wp2_with fail
     go_ret2
     exact ⟨⟨_, l', ⟨_, rfl⟩, ⟨a', cap', by rw [List.length_map]; rfl, he'⟩, by rw [HH.out]; exact hpm⟩, D2.trans (b4.mono D2.size)⟩
end
end Go.Proofs.YtckckabedgpbiaaGreat
