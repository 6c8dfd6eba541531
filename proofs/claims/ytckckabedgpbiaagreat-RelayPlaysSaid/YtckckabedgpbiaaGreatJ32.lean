/- Texts of this proof, merged: HusO, Acts, HusP. -/
import Derived.Test.YtckckabedgpbiaaGreatLstJ
import Derived.Test.YtckckabedgpbiaaGreatJ31
import Derived.Test.YtckckabedgpbiaaGreatJ14
import Derived.Test.YtckckabedgpbiaaGreatJ17
import Derived.Test.YtckckabedgpbiaaGreatJ7
set_option linter.unusedSimpArgs false
set_option linter.unusedVariables false
set_option maxRecDepth 4000
namespace Go.Proofs.YtckckabedgpbiaaGreat
section
open Go.RowKit
def bindC (b : HB) : List Value := .int .i64 b.v :: (.string ⟨b.ip.toArray⟩ :: (u8v b.mac ++ [.int .i64 b.age]))
@[simp] theorem bindC_length (b : HB) : (bindC b).length = 9 := by simp [bindC]
theorem bindC_ones (b : HB) : ones (bindC b) = true := by simp [bindC]
theorem bind_load {W : World} {b o : Nat} {c : HB} (h : W.rangeAt b o (bindC c)) : (loadS 112 (.pointer (some ⟨b, o, none⟩))).run Tryz.prog W = .ok (.agg (bindC c).toArray) W := run_loadS_at h (by simp)
theorem bindInfo : (Tryz.prog.info? 112).map (fun i => (i.zero.map (·.cells.size), i.size, i.bytes)) = some (some 9, 9, 40) := by kernel_rfl
theorem elem_of {w : World} {a : Option Addr} {m : List HB} (h : ElemsAt w a 9 (m.map bindC)) {k : Nat} (hk : k < m.length) : ∃ b off, a = some ⟨b, off, none⟩ ∧ b < w.heap.size ∧ ∀ W, blk W b = blk w b → W.rangeAt b (off + k * 9) (bindC m[k]) :=
 h.2 k (bindC m[k]) (by rw [List.getElem?_map, List.getElem?_eq_getElem hk]; rfl)
theorem tickH_snoc (time : Int) (m : List HB) (c : HB) : tickH time (m ++ [c]) = tickH time m ++ (stepH time c).toList := by
 unfold tickH
 rw [List.filterMap_append]
 cases h : stepH time c with
 | none => simp [h]
 | some d => simp [h]
theorem tickH_length (time : Int) (m : List HB) : (tickH time m).length ≤ m.length := List.length_filterMap_le _ _
set_option maxRecDepth 20000 in
set_option maxHeartbeats 4000000 in
theorem older_any (time : Int) (m : List HB) (a : Option Addr) (cap : Nat) (w : World) (h : ElemsAt w a 9 (m.map bindC)) (hm : m.length ≤ 1024) (hage : ∀ c ∈ m, 0 ≤ c.age ∧ c.age ≤ 1000000) :
  Calls Tryz.prog 26 #[.slice a m.length cap, .int .i64 time] w fun e w' => ∃ v', e = .returned v' ∧ OwnL w' w.heap.size 112 9 v' ((tickH time m).map bindC) ∧ Below w.heap.size w w' := by
 have hmI : (m.length : Int) ≤ 1024 := by omega
 go_enter Tryz.func26, Tryz.ntmps26
 go_wp2_with fail
 go_loopw [5, 6] (fun v i wr => ∃ k : Nat, k ≤ m.length ∧ i = .int .i64 k ∧ OwnL wr w.heap.size 112 9 v ((tickH time (m.take k)).map bindC) ∧ Below w.heap.size w wr) (fun _ i _ => m.length - (intOf i).toNat)
 case atStart => exact ⟨0, by omega, rfl, by rw [List.take_zero]; exact OwnL.nil _ _ _ _, Below.refl _ _⟩
 case round =>
  obtain ⟨k, hk, rfl, hown, hbel⟩ := hrel
  have hsz := hbel.size
  by_cases hlt : k < m.length
  ·
   have hkI : (k : Int) < (m.length : Int) := by omega
   obtain ⟨b, off, rfl, hb, hrange⟩ := elem_of h hlt
   obtain ⟨c, hc⟩ : ∃ c, m[k] = c := ⟨_, rfl⟩
   have hcm : c ∈ m := by rw [← hc]; exact List.getElem_mem _
   have hca := hage c hcm
   have htk : tickH time (m.take (k + 1)) = tickH time (m.take k) ++ (stepH time c).toList := by rw [List.take_succ_eq_append_getElem hlt, hc, tickH_snoc]
   have hlen : (tickH time (m.take k)).length ≤ 1024 := by have := tickH_length time (m.take k); rw [List.length_take] at this; omega
   have HTK := Lib.hid htk
   have HLEN := Lib.hid hlen
   have HL10 := Lib.hid (show ((tickH time (m.take k)).map bindC).length ≤ 10000 by rw [List.length_map]; omega)
   rw [hc] at hrange
   obtain ⟨o, ho⟩ : ∃ o, off + k * 9 = o := ⟨_, rfl⟩
   rw [ho] at hrange
   have hload := fun W hW => bind_load (hrange W hW)
   have hblk : blk wr b = blk w b := blk_below hbel hb
   have hw1 : IntKind.i64.wrap (c.age + 1) = c.age + 1 := by rw [wraps_i64 _ (by omega) (by omega)]
   have hw2 : wrap64 (c.age + 1) = c.age + 1 := by unfold wrap64; omega
   obtain ⟨W1, hW1⟩ : ∃ v, wr.alloc (.cells (bindC c).toArray 112) = v := ⟨_, rfl⟩
   have r1 : row W1 wr.heap.size = (bindC c).toArray := by rw [← hW1]; exact row_alloc_at _ _ _ rfl
   have z1 : W1.heap.size = wr.heap.size + 1 := by rw [← hW1]; exact alloc_sizeW _ _
   have b1 : Below wr.heap.size wr W1 := by rw [← hW1]; exact Below.alloc (Below.refl _ _) (Nat.le_refl _) _
   obtain ⟨W2, hW2⟩ : ∃ v, W1.setRow wr.heap.size (bindC ⟨c.v, c.ip, c.mac, c.age + 1⟩).toArray = v := ⟨_, rfl⟩
   have r2 : row W2 wr.heap.size = (bindC ⟨c.v, c.ip, c.mac, c.age + 1⟩).toArray := by rw [← hW2]; exact row_setRow_same (by rw [r1]; simp) (by rw [r1]; simp)
   have z2 : W2.heap.size = wr.heap.size + 1 := by rw [← hW2, setRow_size, z1]
   have b2 : Below wr.heap.size wr W2 := by rw [← hW2]; exact Below.setRow b1 (Nat.le_refl _) _
   have own2 := hown.below b2
   have B2 : Below w.heap.size w W2 := hbel.trans (b2.mono hsz)
   have HZ2 := Lib.hid z2
   have hle2 : w.heap.size ≤ W2.heap.size := by omega
   clear z1 z2
   unfold bindC at hload hW1 r1 hW2 r2
   simp only at hW2 r2
   clear hrange htk hlen hc hb
   by_cases hold : c.age + 1 < time
   ·
    have hst : stepH time c = some ⟨c.v, c.ip, c.mac, c.age + 1⟩ := by unfold stepH; rw [if_neg (by omega)]
    have HST := Lib.hid hst
    clear hst
    have hfold : List.foldl (fun (cs : Array Value) (x : Value × Nat) => cs.setIfInBounds x.2 x.1) #[Value.int .i64 c.v, Value.string ⟨c.ip.toArray⟩, Value.int .u8 0, Value.int .u8 0, Value.int .u8 0, Value.int .u8 0, Value.int .u8 0, Value.int .u8 0, Value.int .i64 0] ((u8v c.mac ++ [Value.int .i64 (c.age + 1)]).zipIdx 2) = (Value.int .i64 c.v :: (Value.string ⟨c.ip.toArray⟩ :: (u8v c.mac ++ [Value.int .i64 (c.age + 1)]))).toArray :=
     fold_at (u8v c.mac ++ [Value.int .i64 (c.age + 1)]) [Value.int .i64 c.v, Value.string ⟨c.ip.toArray⟩] [Value.int .u8 0, Value.int .u8 0, Value.int .u8 0, Value.int .u8 0, Value.int .u8 0, Value.int .u8 0, Value.int .i64 0] (by simp)
    go_wp2_with (at_builtin; refine wpList_appendL rfl rfl Tryz.underlying28 bindInfo (by decide) (by decide) w.heap.size _ _ rfl own2 (bindC ⟨c.v, c.ip, c.mac, c.age + 1⟩) rfl (bindC_length _) (bindC_ones _) HL10.out hle2 ?_)
    intro v' w4 o4 b4 f4
    go_wp2_with fail
    go_roundw
    case rel =>
     refine ⟨k + 1, by omega, by simp, ?_, B2.trans b4⟩
     rw [HTK.out, HST.out, List.map_append]
     exact o4
    case measure => simp [intOf]; omega
   ·
    have hst : stepH time c = none := by unfold stepH; rw [if_pos (by omega)]
    have HST := Lib.hid hst
    clear hst
    go_wp2_with fail
    go_roundw
    case rel =>
     refine ⟨k + 1, by omega, by simp, ?_, B2⟩
     rw [HTK.out, HST.out]
     simpa using own2
    case measure => simp [intOf]; omega
  ·
   obtain rfl : k = m.length := by omega
   have hkI : ¬ (m.length : Int) < (m.length : Int) := by omega
   rw [List.take_of_length_le (Nat.le_refl _)] at hown
   go_wp2_with fail
   go_ret
   exact ⟨_, rfl, hown, hbel⟩
end
section
open Go.ChangeShapes Go.WideShapes Go.ChangeAt Go.RowKit
structure ActD where
 d : Int
 v : Int
 dst : Vector UInt8 6
 src : Vector UInt8 6
 ty : Int
 body : List UInt8
def actC (a : ActD) : List Value := .int .u8 a.d :: (.int .i64 a.v :: frameV a.dst a.src a.ty a.body)
@[simp] theorem actC_length (a : ActD) : (actC a).length = 16 := by simp [actC, frameV]
def ActsAt (w : World) (a : Option Addr) (acts : List ActD) : Prop :=
 acts.length ≤ maxLen ∧ ∀ (i : Nat) (x : ActD), acts[i]? = some x → ∃ b off, a = some ⟨b, off, none⟩ ∧ b < w.heap.size ∧ ∀ W, blk W b = blk w b → W.rangeAt b (off + i * 16) (actC x)
theorem ActsAt.below {w w' : World} {a : Option Addr} {acts : List ActD} (h : ActsAt w a acts) (hb : Below w.heap.size w w') : ActsAt w' a acts := by
 refine ⟨h.1, fun i x hx => ?_⟩
 obtain ⟨b, off, e, hl, hr⟩ := h.2 i x hx
 exact ⟨b, off, e, Nat.lt_of_lt_of_le hl hb.size, fun W hW => hr W (hW.trans (blk_below hb hl))⟩
structure ActRun (b o : Nat) (x : ActD) (W : World) : Prop where
 d : W.cell? ⟨b, o, none⟩ = some (.int .u8 x.d)
 v : W.cell? ⟨b, o + 1, none⟩ = some (.int .i64 x.v)
 f : (loadS 67 (.pointer (some ⟨b, o + 2, none⟩))).run Tryz.prog W = .ok (.agg (frameV x.dst x.src x.ty x.body).toArray) W
 s : (loadS 65 (.pointer (some ⟨b, o + 8, none⟩))).run Tryz.prog W = .ok (.agg (u8v x.src).toArray) W
 t : W.cell? ⟨b, o + 15, none⟩ = some (.string ⟨x.body.toArray⟩)
theorem rangeAt_part {W : World} {b o : Nat} {l m r : List Value} {k : Nat} (h : W.rangeAt b o (l ++ (m ++ r))) (hk : l.length = k) : W.rangeAt b (o + k) m := by
 intro j v hj
 have hjl := (List.getElem?_eq_some_iff.1 hj).1
 have := h (k + j) v (by rw [List.getElem?_append_right (by omega), hk, Nat.add_sub_cancel_left, List.getElem?_append_left hjl]; exact hj)
 rw [show o + k + j = o + (k + j) by omega]
 exact this
section
variable (a : ActD) (ip : List UInt8) (mac : Vector UInt8 6) (ok : Bool)
end
theorem mem_putH {c : HB} : ∀ {m : List HB} {b : HB}, b ∈ putH c m → b = c ∨ b ∈ m
 | [], b, h => .inl (by simpa [putH] using h)
 | d :: m, b, h => by
  unfold putH at h
  split at h
  ·
   rcases List.mem_cons.1 h with h | h
   ·
    exact .inl h
   ·
    exact .inr (List.mem_cons_of_mem _ h)
  ·
   rcases List.mem_cons.1 h with h | h
   ·
    exact .inr (by rw [h]; exact List.mem_cons_self)
   ·
    rcases mem_putH h with h | h
    ·
     exact .inl h
    ·
     exact .inr (List.mem_cons_of_mem _ h)
end
section
open Go.RowKit
def SlL (w : World) (sz : Nat) (v : Value) (l : List (List Value)) : Prop := ∃ a cap, v = .slice a l.length cap ∧ ElemsAt w a sz l
def repH (v : Int) (ip : List UInt8) (mac : Vector UInt8 6) (c : HB) : HB := if c.is v ip then ⟨v, ip, mac, 0⟩ else c
def hadH (v : Int) (ip : List UInt8) (m : List HB) : Bool := m.any fun c => c.is v ip
def learnH (v : Int) (ip : List UInt8) (mac : Vector UInt8 6) (ok : Bool) (m : List HB) : List HB := if ok && (hadH v ip m || decide (m.length < 1024)) then putH ⟨v, ip, mac, 0⟩ m else m
theorem had_find (v : Int) (ip : List UInt8) : ∀ m : List HB, (hadH v ip m = true ↔ findH v ip m ≠ none)
 | [] => by simp [hadH, findH]
 | c :: m => by
  have ih := had_find v ip m
  rw [findH]
  by_cases h : c.is v ip = true
  ·
   rw [if_pos h]
   simp [hadH, h]
  ·
   rw [if_neg h, ← ih]
   simp [hadH, h]
theorem rep_none {v : Int} {ip : List UInt8} (mac : Vector UInt8 6) : ∀ {m : List HB}, hadH v ip m = false → m.map (repH v ip mac) = m ∧ putH ⟨v, ip, mac, 0⟩ m = m ++ [⟨v, ip, mac, 0⟩]
 | [], _ => ⟨rfl, rfl⟩
 | c :: m, h => by
  unfold hadH at h
  rw [List.any_cons, Bool.or_eq_false_iff] at h
  obtain ⟨e1, e2⟩ := rep_none mac (m := m) h.2
  have hc : ¬ c.is v ip = true := by rw [h.1]; decide
  refine ⟨?_, ?_⟩
  ·
   rw [List.map_cons, e1, repH, if_neg hc]
  ·
   rw [putH, if_neg hc, e2]; rfl
theorem rep_some {v : Int} {ip : List UInt8} (mac : Vector UInt8 6) : ∀ {m : List HB}, DistH m → hadH v ip m = true → m.map (repH v ip mac) = putH ⟨v, ip, mac, 0⟩ m
 | [], _, h => by cases h
 | c :: m, hd, h => by
  rw [DistH, List.pairwise_cons] at hd
  rw [List.map_cons, putH]
  by_cases hc : c.is v ip = true
  ·
   rw [if_pos hc, repH, if_pos hc]
   have hn : hadH v ip m = false := by
    unfold hadH
    rw [List.any_eq_false]
    intro b hb hbt
    have h1 := hd.1 b hb
    unfold HB.is at hc hbt h1
    simp only [Bool.and_eq_true, beq_iff_eq] at hc hbt
    rw [← hc.1, ← hc.2, ← hbt.1, ← hbt.2] at h1
    simp at h1
   rw [(rep_none mac hn).1]
  ·
   rw [if_neg hc, repH, if_neg hc, rep_some mac hd.2 (by unfold hadH at *; rw [List.any_cons] at h; simpa [hc] using h)]
theorem had_snoc (v : Int) (ip : List UInt8) (m : List HB) (c : HB) : hadH v ip (m ++ [c]) = (hadH v ip m || c.is v ip) := by simp [hadH]
set_option maxRecDepth 20000 in
set_option maxHeartbeats 4000000 in
theorem rlearn_any (dst src : Vector UInt8 6) (ty : Int) (body : List UInt8) (ip : List UInt8) (mac : Vector UInt8 6) (ok : Bool) (HA : RAnnC dst src ty body ip mac ok) (vl : Int) (m : List HB) (a : Option Addr) (cap : Nat) (w : World) (h : ElemsAt w a 9 (m.map bindC)) (hm : m.length ≤ 1024) (hd : DistH m) :
  Calls Tryz.prog 43 #[.slice a m.length cap, .int .i64 vl, .agg (frameV dst src ty body).toArray] w fun e w' => ∃ v', e = .returned (.tuple #[v', .bool (ok && (hadH vl ip m || decide (m.length < 1024)))]) ∧ SlL w' 9 v' ((learnH vl ip mac ok m).map bindC) ∧ Below w.heap.size w w' := by
 have hmI : (m.length : Int) ≤ 1024 := by omega
 unfold RAnnC at HA
 unfold frameV at *
 have KA := Lib.hid HA
 clear HA
 go_enter Tryz.func43, Tryz.ntmps43
 go_wp2_with fail
 (with_reducible refine (KA.out _).mono ?_)
 rintro e w1 ⟨rfl, b1⟩
 have z1 := b1.size
 simp at z1
 obtain ⟨w2, hw2⟩ : ∃ v, w1.alloc (.cells (u8v mac).toArray 65) = v := ⟨_, rfl⟩
 have rM : row w2 w1.heap.size = (u8v mac).toArray := by rw [← hw2]; exact row_alloc_at _ _ _ rfl
 have B2 : Below w.heap.size w w2 := by rw [← hw2]; exact Below.alloc (Below.trans (Below.alloc (Below.refl _ _) (Nat.le_refl _) _) (b1.mono (by simp))) (by omega) _
 have z2 : w2.heap.size = w1.heap.size + 1 := by rw [← hw2]; exact alloc_sizeW _ _
 clear b1
 cases ok with
 | false =>
  go_wp2_with fail
  refine bodyPost_ret (results_2 rfl resOk_tmp resOk_tmp) rfl ?_
  exact ⟨_, rfl, ⟨a, cap, by rw [List.length_map]; rfl, h.below B2⟩, B2⟩
 | true =>
  go_wp2_with fail
  clear hw2
  obtain ⟨F, hF⟩ : ∃ F, w1.heap.size = F := ⟨_, rfl⟩
  rw [hF] at rM z1 z2
  try rw [hF]
  go_loopw [11, 12, 13] (fun v had i wr => ∃ k : Nat, k ≤ m.length ∧ i = .int .i64 k ∧ had = .bool (hadH vl ip (m.take k)) ∧ OwnL wr w2.heap.size 112 9 v (((m.take k).map (repH vl ip mac)).map bindC) ∧ Below w2.heap.size w2 wr) (fun _ _ i _ => m.length - (intOf i).toNat)
  case atStart => exact ⟨0, by omega, rfl, by rw [List.take_zero]; rfl, by rw [List.take_zero]; exact OwnL.nil _ _ _ _, Below.refl _ _⟩
  case round =>
   obtain ⟨k, hk, rfl, rfl, hown, hbel⟩ := hrel
   have hsz := hbel.size
   have zF : F < wr.heap.size := by omega
   have hw2 : w.heap.size < w2.heap.size := by omega
   have hwr : w.heap.size < wr.heap.size := by omega
   have rMr := (row_below hbel (by omega)).trans rM
   have hb2 := h.below B2
   clear z2 rM
   by_cases hlt : k < m.length
   ·
    have hkI : (k : Int) < (m.length : Int) := by omega
    obtain ⟨b, off, rfl, hb, hrange⟩ := elem_of hb2 hlt
    obtain ⟨c, hc⟩ : ∃ c, m[k] = c := ⟨_, rfl⟩
    have htk : m.take (k + 1) = m.take k ++ [c] := by rw [List.take_succ_eq_append_getElem hlt, hc]
    have HTK := Lib.hid htk
    obtain ⟨L, hL⟩ : ∃ L, (m.take k).map (repH vl ip mac) = L := ⟨_, rfl⟩
    rw [hL] at hown
    have HL := Lib.hid hL
    have HL10 := Lib.hid (show (L.map bindC).length ≤ 10000 by rw [← hL, List.length_map, List.length_map, List.length_take]; omega)
    clear hL
    rw [hc] at hrange
    obtain ⟨o, ho⟩ : ∃ o, off + k * 9 = o := ⟨_, rfl⟩
    rw [ho] at hrange
    have hload := fun W hW => bind_load (hrange W hW)
    have hblk : blk wr b = blk w2 b := blk_below hbel hb
    obtain ⟨had, hhad⟩ : ∃ t, hadH vl ip (m.take k) = t := ⟨_, rfl⟩
    rw [hhad]
    have HH := Lib.hid hhad
    obtain ⟨W1, hW1⟩ : ∃ v, wr.alloc (.cells (bindC c).toArray 112) = v := ⟨_, rfl⟩
    have r1 : row W1 wr.heap.size = (bindC c).toArray := by rw [← hW1]; exact row_alloc_at _ _ _ rfl
    have z1' : W1.heap.size = wr.heap.size + 1 := by rw [← hW1]; exact alloc_sizeW _ _
    have b1 : Below wr.heap.size wr W1 := by rw [← hW1]; exact Below.alloc (Below.refl _ _) (Nat.le_refl _) _
    have rM1 := (row_below b1 zF).trans rMr
    clear hrange htk hc hb hhad
    by_cases hmat : c.is vl ip = true
    ·
     have hvi : c.v = vl ∧ c.ip = ip := by
      unfold HB.is at hmat
      simp only [Bool.and_eq_true, beq_iff_eq] at hmat
      exact ⟨hmat.1.symm, hmat.2.symm⟩
     have hrep : repH vl ip mac c = ⟨vl, ip, mac, 0⟩ := by rw [repH, if_pos hmat]
     have HR := Lib.hid hrep
     have HM := Lib.hid hmat
     obtain ⟨cv, ci, cm, ca⟩ := c
     obtain ⟨e1, e2⟩ := hvi
     dsimp only at e1 e2
     subst e1 e2
     obtain ⟨W2, hW2⟩ : ∃ v, W1.setRow wr.heap.size (bindC ⟨cv, ci, mac, ca⟩).toArray = v := ⟨_, rfl⟩
     have r2 : row W2 wr.heap.size = (bindC ⟨cv, ci, mac, ca⟩).toArray := by rw [← hW2]; exact row_setRow_same (by rw [r1]; simp) (by rw [r1]; simp)
     have z2' : W2.heap.size = wr.heap.size + 1 := by rw [← hW2, setRow_size, z1']
     have b2 : Below wr.heap.size wr W2 := by rw [← hW2]; exact Below.setRow b1 (Nat.le_refl _) _
     have rM2 := (row_below b2 zF).trans rMr
     obtain ⟨W3, hW3⟩ : ∃ v, W2.setRow wr.heap.size (bindC ⟨cv, ci, mac, 0⟩).toArray = v := ⟨_, rfl⟩
     have r3 : row W3 wr.heap.size = (bindC ⟨cv, ci, mac, 0⟩).toArray := by rw [← hW3]; exact row_setRow_same (by rw [r2]; simp) (by rw [r2]; simp)
     have z3' : W3.heap.size = wr.heap.size + 1 := by rw [← hW3, setRow_size, z2']
     have b3 : Below wr.heap.size wr W3 := by rw [← hW3]; exact Below.setRow b2 (Nat.le_refl _) _
     have rM3 := (row_below b3 zF).trans rMr
     have own3 := hown.below b3
     have B3 : Below w2.heap.size w2 W3 := hbel.trans (b3.mono hsz)
     have hle3 : w2.heap.size ≤ W3.heap.size := by omega
     have hF3 : F < W3.heap.size := by omega
     have HZ3 := Lib.hid z3'
     clear z1' z2' z3' hrep hmat
     unfold bindC at hload hW1 r1 hW2 r2 hW3 r3
     simp only at hload hW1 r1 hW2 r2 hW3 r3
     have hfold : List.foldl (fun (cs : Array Value) (x : Value × Nat) => cs.setIfInBounds x.2 x.1) #[Value.int .i64 cv, Value.string ⟨ci.toArray⟩, Value.int .u8 0, Value.int .u8 0, Value.int .u8 0, Value.int .u8 0, Value.int .u8 0, Value.int .u8 0, Value.int .i64 0] ((u8v mac ++ [Value.int .i64 0]).zipIdx 2) = (Value.int .i64 cv :: (Value.string ⟨ci.toArray⟩ :: (u8v mac ++ [Value.int .i64 0]))).toArray :=
      fold_at (u8v mac ++ [Value.int .i64 0]) [Value.int .i64 cv, Value.string ⟨ci.toArray⟩] [Value.int .u8 0, Value.int .u8 0, Value.int .u8 0, Value.int .u8 0, Value.int .u8 0, Value.int .u8 0, Value.int .i64 0] (by simp)
     go_wp2_with (at_builtin; refine wpList_appendL rfl rfl Tryz.underlying28 bindInfo (by decide) (by decide) w2.heap.size _ _ rfl own3 (bindC ⟨cv, ci, mac, 0⟩) rfl (bindC_length _) (bindC_ones _) HL10.out hle3 ?_)
     intro v' w4 o4 b4 f4
     go_wp2_with fail
     go_roundw
     case rel =>
      refine ⟨k + 1, by omega, by simp, ?_, ?_, B3.trans b4⟩
      ·
       rw [HTK.out, had_snoc, HM.out, Bool.or_true]
      ·
       rw [HTK.out, List.map_append, List.map_append, List.map_singleton, List.map_singleton, HR.out, HL.out]
       exact o4
     case measure => simp [intOf]; omega
    ·
     have hrep : repH vl ip mac c = c := by rw [repH, if_neg hmat]
     have HR := Lib.hid hrep
     have HM := Lib.hid (Bool.eq_false_iff.2 hmat)
     have hcase : (c.v == vl) = false ∨ (c.v == vl) = true ∧ (c.ip == ip) = false := by
      have h0 := Bool.eq_false_iff.2 hmat
      unfold HB.is at h0
      rw [Bool.beq_comm (a := vl), Bool.beq_comm (a := ip)] at h0
      cases h1 : (c.v == vl) with
      | false => exact .inl rfl
      | true => rw [h1, Bool.true_and] at h0; exact .inr ⟨rfl, h0⟩
     have own1 := hown.below b1
     have B1 : Below w2.heap.size w2 W1 := hbel.trans (b1.mono hsz)
     have hle1 : w2.heap.size ≤ W1.heap.size := by omega
     have HZ1 := Lib.hid z1'
     clear z1' hrep hmat
     unfold bindC at hload hW1 r1
     have hfold : List.foldl (fun (cs : Array Value) (x : Value × Nat) => cs.setIfInBounds x.2 x.1) #[Value.int .i64 c.v, Value.string ⟨c.ip.toArray⟩, Value.int .u8 0, Value.int .u8 0, Value.int .u8 0, Value.int .u8 0, Value.int .u8 0, Value.int .u8 0, Value.int .i64 0] ((u8v c.mac ++ [Value.int .i64 c.age]).zipIdx 2) = (Value.int .i64 c.v :: (Value.string ⟨c.ip.toArray⟩ :: (u8v c.mac ++ [Value.int .i64 c.age]))).toArray :=
      fold_at (u8v c.mac ++ [Value.int .i64 c.age]) [Value.int .i64 c.v, Value.string ⟨c.ip.toArray⟩] [Value.int .u8 0, Value.int .u8 0, Value.int .u8 0, Value.int .u8 0, Value.int .u8 0, Value.int .u8 0, Value.int .i64 0] (by simp)
     rcases hcase with e1 | ⟨e1, e2⟩
     all_goals
      go_wp2_with (at_builtin; refine wpList_appendL rfl rfl Tryz.underlying28 bindInfo (by decide) (by decide) w2.heap.size _ _ rfl own1 (bindC c) rfl (bindC_length _) (bindC_ones _) HL10.out hle1 ?_)
      intro v' w4 o4 b4 f4
      go_wp2_with fail
      go_roundw
      case rel =>
       refine ⟨k + 1, by omega, by simp, ?_, ?_, B1.trans b4⟩
       ·
        rw [HTK.out, had_snoc, HM.out, Bool.or_false, HH.out]
       ·
        rw [HTK.out, List.map_append, List.map_append, List.map_singleton, List.map_singleton, HR.out, HL.out]
        exact o4
      case measure => simp [intOf]; omega
   ·
    obtain rfl : k = m.length := by omega
    have hkI : ¬ (m.length : Int) < (m.length : Int) := by omega
    have HL10 := Lib.hid (show ((m.map (repH vl ip mac)).map bindC).length ≤ 10000 by rw [List.length_map, List.length_map]; omega)
    rw [List.take_of_length_le (Nat.le_refl _)] at hown
    rw [List.take_of_length_le (Nat.le_refl _)]
    obtain ⟨L, hL⟩ : ∃ L, m.map (repH vl ip mac) = L := ⟨_, rfl⟩
    rw [hL] at hown
    have HL10 := Lib.hid (hL ▸ HL10.out)
    have HL := Lib.hid hL
    clear hL
    have hle : w2.heap.size ≤ wr.heap.size := hsz
    obtain ⟨had, hhad⟩ : ∃ t, hadH vl ip m = t := ⟨_, rfl⟩
    rw [hhad]
    have HH := Lib.hid hhad
    have HR1 := fun e => Lib.hid (rep_some (v := vl) (ip := ip) mac hd (hhad.trans e))
    have HR2 := fun e => Lib.hid (rep_none (v := vl) (ip := ip) mac (hhad.trans e))
    clear hhad
    have hfold : List.foldl (fun (cs : Array Value) (x : Value × Nat) => cs.setIfInBounds x.2 x.1) #[Value.int .i64 vl, Value.string ⟨ip.toArray⟩, Value.int .u8 0, Value.int .u8 0, Value.int .u8 0, Value.int .u8 0, Value.int .u8 0, Value.int .u8 0, Value.int .i64 0] ((u8v mac ++ [Value.int .i64 0]).zipIdx 2) = (Value.int .i64 vl :: (Value.string ⟨ip.toArray⟩ :: (u8v mac ++ [Value.int .i64 0]))).toArray :=
     fold_at (u8v mac ++ [Value.int .i64 0]) [Value.int .i64 vl, Value.string ⟨ip.toArray⟩] [Value.int .u8 0, Value.int .u8 0, Value.int .u8 0, Value.int .u8 0, Value.int .u8 0, Value.int .u8 0, Value.int .i64 0] (by simp)
    have hfold2 : List.foldl (fun (cs : Array Value) (x : Value × Nat) => cs.setIfInBounds x.2 x.1) #[Value.int .i64 vl, Value.string ⟨ip.toArray⟩, Value.int .u8 0, Value.int .u8 0, Value.int .u8 0, Value.int .u8 0, Value.int .u8 0, Value.int .u8 0, Value.int .i64 0] ((u8v mac).zipIdx 2) = (Value.int .i64 vl :: (Value.string ⟨ip.toArray⟩ :: (u8v mac ++ [Value.int .i64 0]))).toArray :=
     fold_at2 (u8v mac) [Value.int .i64 vl, Value.string ⟨ip.toArray⟩] [Value.int .u8 0, Value.int .u8 0, Value.int .u8 0, Value.int .u8 0, Value.int .u8 0, Value.int .u8 0] [Value.int .i64 0] (by simp)
    cases had with
    | true =>
     have hR := HR1 rfl
     clear HR1 HR2
     go_wp2_with fail
     refine bodyPost_ret (results_2 rfl resOk_tmp resOk_tmp) rfl ?_
     obtain ⟨a', c', rfl, he'⟩ := hown.elems
     refine ⟨_, by rw [HH.out]; rfl, ?_, B2.trans (hbel.mono (by omega))⟩
     unfold learnH
     rw [HH.out, Bool.true_or, Bool.and_true, if_pos rfl, ← hR.out, HL.out]
     exact ⟨a', c', rfl, he'⟩
    | false =>
     have hR := HR2 rfl
     clear HR1 HR2
     by_cases h1024 : m.length < 1024
     ·
      have hI : ¬ (1024 : Int) ≤ (m.length : Int) := by omega
      go_wp2_with (at_builtin; refine wpList_appendL rfl rfl Tryz.underlying28 bindInfo (by decide) (by decide) w2.heap.size _ _ rfl hown (bindC ⟨vl, ip, mac, 0⟩) rfl (bindC_length _) (bindC_ones _) HL10.out hle ?_)
      intro v' w4 o4 b4 f4
      go_wp2_with fail
      refine bodyPost_ret (results_2 rfl resOk_tmp resOk_tmp) rfl ?_
      obtain ⟨a', c', rfl, he'⟩ := o4.elems
      refine ⟨_, by rw [HH.out, decide_eq_true h1024]; rfl, ?_, B2.trans ((hbel.trans b4).mono (by omega))⟩
      unfold learnH
      rw [HH.out, Bool.false_or, decide_eq_true h1024, Bool.and_true, if_pos rfl, hR.out.2]
      have hLm : L = m := HL.out.symm.trans hR.out.1
      rw [hLm] at he' ⊢
      exact ⟨a', c', by rw [List.map_append]; rfl, by rw [List.map_append]; exact he'⟩
     ·
      have hI : (1024 : Int) ≤ (m.length : Int) := by omega
      go_wp2_with fail
      refine bodyPost_ret (results_2 rfl resOk_tmp resOk_tmp) rfl ?_
      refine ⟨.slice a m.length cap, by first | (rw [HH.out, decide_eq_false h1024] <;> rfl) | (rw [HH.out] <;> rfl) | rfl, ⟨a, cap, ?_, ?_⟩, B2.trans (hbel.mono (by omega))⟩
      ·
       unfold learnH
       rw [HH.out, Bool.false_or, decide_eq_false h1024, Bool.and_false, if_neg (by decide), List.length_map]
      ·
       unfold learnH
       rw [HH.out, Bool.false_or, decide_eq_false h1024, Bool.and_false, if_neg (by decide)]
       exact (hb2.below hbel)
end
end Go.Proofs.YtckckabedgpbiaaGreat
