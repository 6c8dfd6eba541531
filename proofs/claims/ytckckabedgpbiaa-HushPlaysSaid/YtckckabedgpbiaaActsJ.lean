/- The acts of the laws of chapter 21: an argument's slice of structs; whether they are few. -/
import Derived.Test.YtckckabedgpbiaaHusEJ
import Derived.Test.YtckckabedgpbiaaHusWJ
import Derived.Test.YtckckabedgpbiaaJ19
import Derived.Test.YtckckabedgpbiaaJ7
set_option linter.unusedSimpArgs false
set_option linter.unusedVariables false
set_option maxRecDepth 4000
namespace Go.Proofs.Ytckckabedgpbiaa
open Go.ChangeShapes Go.WideShapes Go.ChangeAt Go.RowKit
structure ActD where
 d : Int
 v : Int
 dst : Vector UInt8 6
 src : Vector UInt8 6
 ty : Int
 body : List UInt8
def actC (a : ActD) : List Value := .int .u8 a.d :: (.int .i64 a.v :: frameV a.dst a.src a.ty a.body)
@[simp] theorem actC_length (a : ActD) : (actC a).length = 16 := by simp [actC, frameV]
theorem good_mac' : GoodT Try.prog 30 (leaves 6 (.int .u8)) :=
 good_array (good_int Try.underlying5 (by kernel_rfl)) Try.underlying30 (by kernel_rfl)
theorem good_frame : GoodT Try.prog 32 (leaves 6 (.int .u8) ++ (leaves 6 (.int .u8) ++ ([Leaf.int .i64] ++ ([Leaf.str] ++ [])))) :=
 good_struct [(30, leaves 6 (.int .u8)), (30, leaves 6 (.int .u8)), (3, [.int .i64]), (9, [.str])]
  (by
   intro p hp
   simp only [List.mem_cons, List.not_mem_nil, or_false] at hp
   rcases hp with rfl | rfl | rfl | rfl
   ·
    exact good_mac'
   ·
    exact good_mac'
   ·
    exact good_int Try.underlying3 (by kernel_rfl)
   ·
    exact good_str Try.underlying9 (by kernel_rfl)) Try.underlying32 (by kernel_rfl) (by kernel_rfl)
theorem good_act : GoodT Try.prog 36 ([.int .u8] ++ ([.int .i64] ++ ((leaves 6 (.int .u8) ++ (leaves 6 (.int .u8) ++ ([Leaf.int .i64] ++ ([Leaf.str] ++ [])))) ++ []))) :=
 good_struct [(5, [.int .u8]), (3, [.int .i64]), (32, leaves 6 (.int .u8) ++ (leaves 6 (.int .u8) ++ ([Leaf.int .i64] ++ ([Leaf.str] ++ []))))]
  (by
   intro p hp
   simp only [List.mem_cons, List.not_mem_nil, or_false] at hp
   rcases hp with rfl | rfl | rfl
   ·
    exact good_int Try.underlying5 (by kernel_rfl)
   ·
    exact good_int Try.underlying3 (by kernel_rfl)
   ·
    exact good_frame) Try.underlying36 (by kernel_rfl) (by kernel_rfl)
theorem acts_of : ∀ (l : List (List Value)), (∀ y ∈ l, goods ([.int .u8] ++ ([.int .i64] ++ ((leaves 6 (.int .u8) ++ (leaves 6 (.int .u8) ++ ([Leaf.int .i64] ++ ([Leaf.str] ++ [])))) ++ []))) y) → ∃ acts : List ActD, l = acts.map actC
 | [], _ => ⟨[], rfl⟩
 | y :: l, h => by
  obtain ⟨xs, ha⟩ := acts_of l fun z hz => h z (by simp [hz])
  have h1 := h y (by simp)
  simp only [List.cons_append, List.nil_append, List.append_nil, List.append_assoc] at h1
  obtain ⟨d, r1, e1, _, h2⟩ := goods_int h1
  obtain ⟨v, r2, e2, _, h3⟩ := goods_int h2
  obtain ⟨dst, r3, e3, h4⟩ := goods_u8 h3
  obtain ⟨src, r4, e4, h5⟩ := goods_u8 h4
  obtain ⟨ty, r5, e5, _, h6⟩ := goods_int h5
  obtain ⟨body, r6, e6, _, h7⟩ := goods_str h6
  have e7 := goods_nil h7
  exact ⟨⟨d, v, dst, src, ty, body.toList⟩ :: xs, by rw [ha, e1, e2, e3, e4, e5, e6, e7]; simp [actC, frameV]⟩
def ActsAt (w : World) (a : Option Addr) (acts : List ActD) : Prop :=
 acts.length ≤ maxLen ∧ ∀ (i : Nat) (x : ActD), acts[i]? = some x → ∃ b off, a = some ⟨b, off, none⟩ ∧ b < w.heap.size ∧ ∀ W, blk W b = blk w b → W.rangeAt b (off + i * 16) (actC x)
theorem ActsAt.below {w w' : World} {a : Option Addr} {acts : List ActD} (h : ActsAt w a acts) (hb : Below w.heap.size w w') : ActsAt w' a acts := by
 refine ⟨h.1, fun i x hx => ?_⟩
 obtain ⟨b, off, e, hl, hr⟩ := h.2 i x hx
 exact ⟨b, off, e, Nat.lt_of_lt_of_le hl hb.size, fun W hW => hr W (hW.trans (blk_below hb hl))⟩
structure ActRun (b o : Nat) (x : ActD) (W : World) : Prop where
 d : W.cell? ⟨b, o, none⟩ = some (.int .u8 x.d)
 v : W.cell? ⟨b, o + 1, none⟩ = some (.int .i64 x.v)
 f : (loadS 32 (.pointer (some ⟨b, o + 2, none⟩))).run Try.prog W = .ok (.agg (frameV x.dst x.src x.ty x.body).toArray) W
 s : (loadS 30 (.pointer (some ⟨b, o + 8, none⟩))).run Try.prog W = .ok (.agg (u8v x.src).toArray) W
 t : W.cell? ⟨b, o + 15, none⟩ = some (.string ⟨x.body.toArray⟩)
theorem rangeAt_part {W : World} {b o : Nat} {l m r : List Value} {k : Nat} (h : W.rangeAt b o (l ++ (m ++ r))) (hk : l.length = k) : W.rangeAt b (o + k) m := by
 intro j v hj
 have hjl := (List.getElem?_eq_some_iff.1 hj).1
 have := h (k + j) v (by rw [List.getElem?_append_right (by omega), hk, Nat.add_sub_cancel_left, List.getElem?_append_left hjl]; exact hj)
 rw [show o + k + j = o + (k + j) by omega]
 exact this
theorem rangeAt_cell {W : World} {b o : Nat} {x : Value} (h : W.rangeAt b o [x]) : W.cell? ⟨b, o, none⟩ = some x := h 0 x rfl
theorem act_run {W : World} {b o : Nat} {x : ActD} (h : W.rangeAt b o (actC x)) : ActRun b o x W := by
 have e : actC x = [.int .u8 x.d] ++ ([.int .i64 x.v] ++ (u8v x.dst ++ (u8v x.src ++ ([.int .i64 x.ty] ++ [.string ⟨x.body.toArray⟩])))) := by simp [actC, frameV]
 refine ⟨?_, ?_, ?_, ?_, ?_⟩
 ·
  have := rangeAt_part (l := []) (m := [Value.int .u8 x.d]) (r := [.int .i64 x.v] ++ (u8v x.dst ++ (u8v x.src ++ ([.int .i64 x.ty] ++ [.string ⟨x.body.toArray⟩])))) (k := 0) (by rw [List.nil_append, ← e]; exact h) rfl
  exact rangeAt_cell this
 ·
  have := rangeAt_part (l := [.int .u8 x.d]) (m := [Value.int .i64 x.v]) (r := u8v x.dst ++ (u8v x.src ++ ([.int .i64 x.ty] ++ [.string ⟨x.body.toArray⟩]))) (k := 1) (by rw [← e]; exact h) rfl
  exact rangeAt_cell this
 ·
  have := rangeAt_part (l := [.int .u8 x.d, .int .i64 x.v]) (m := frameV x.dst x.src x.ty x.body) (r := []) (k := 2) (by rw [List.append_nil]; exact h) rfl
  exact run_loadS_at this (by simp [frameV])
 ·
  have := rangeAt_part (l := [.int .u8 x.d] ++ ([.int .i64 x.v] ++ u8v x.dst)) (m := u8v x.src) (r := [.int .i64 x.ty] ++ [.string ⟨x.body.toArray⟩]) (k := 8) (by rw [e] at h; simpa only [List.append_assoc] using h) (by simp)
  exact run_loadS_at this (by simp)
 ·
  have := rangeAt_part (l := [.int .u8 x.d] ++ ([.int .i64 x.v] ++ (u8v x.dst ++ (u8v x.src ++ [.int .i64 x.ty])))) (m := [Value.string ⟨x.body.toArray⟩]) (r := []) (k := 15) (by rw [e] at h; simpa only [List.append_assoc, List.append_nil] using h) (by simp)
  exact rangeAt_cell this
def fewB (acts : List ActD) : Bool := (acts.take 61).all (fun a => decide (a.body.length ≤ 300)) && decide (acts.length ≤ 60)
theorem fewB_spec {acts : List ActD} (h : fewB acts = true) : acts.length ≤ 60 ∧ ∀ a ∈ acts, a.body.length ≤ 300 := by
 unfold fewB at h
 simp only [Bool.and_eq_true, decide_eq_true_eq, List.all_eq_true] at h
 obtain ⟨h1, h2⟩ := h
 rw [List.take_of_length_le (by omega)] at h1
 exact ⟨h2, h1⟩
set_option maxRecDepth 20000 in
set_option maxHeartbeats 4000000 in
theorem few21_any (a : Option Addr) (cap : Nat) (acts : List ActD) (w : World) (h : ActsAt w a acts) :
  Calls Try.prog 14 #[.slice a acts.length cap] w fun e w' => e = .returned (.bool (fewB acts)) ∧ Below w.heap.size w w' := by
 have hm := h.1
 have hm2 : (acts.length : Int) ≤ 9223372036854775807 := by unfold maxLen at hm; omega
 go_enter Try.func14, Try.ntmps14
 go_wp2_with fail
 go_loopw [3] (fun i wr => ∃ k : Nat, k ≤ acts.length ∧ k ≤ 61 ∧ i = .int .i64 k ∧ (∀ a ∈ acts.take k, a.body.length ≤ 300) ∧ Below w.heap.size w wr) (fun i _ => 61 - (intOf i).toNat)
 case atStart => exact ⟨0, by omega, by omega, rfl, by simp, Below.refl _ _⟩
 case round =>
  obtain ⟨k, hk, hk61, rfl, hall, hbel⟩ := hrel
  have HALL := Lib.hid hall
  clear hall
  by_cases h1 : k < acts.length
  ·
   have h1I : (k : Int) < (acts.length : Int) := by omega
   by_cases h2 : k ≤ 60
   ·
    have h2I : (k : Int) ≤ 60 := by omega
    obtain ⟨x, hx⟩ : ∃ x, acts[k] = x := ⟨_, rfl⟩
    obtain ⟨b, off, rfl, hb, hrange⟩ := h.2 k x (by rw [List.getElem?_eq_getElem h1, hx])
    have hrun := act_run (hrange wr (blk_below hbel hb))
    obtain ⟨o, ho⟩ : ∃ o, off + k * 16 = o := ⟨_, rfl⟩
    rw [ho] at hrun
    have hc := hrun.t
    have hxm : x ∈ acts := by rw [← hx]; exact List.getElem_mem _
    have htk : acts.take (k + 1) = acts.take k ++ [x] := by rw [List.take_succ_eq_append_getElem h1, hx]
    have HTK := Lib.hid htk
    have HX := Lib.hid hx
    clear hrange hrun htk hx
    by_cases h3 : x.body.length ≤ 300
    ·
     have h3I : ¬ (300 : Int) < (x.body.length : Int) := by omega
     go_wp2_with fail
     go_roundw
     case rel =>
      refine ⟨k + 1, by omega, by omega, by simp, ?_, hbel⟩
      rw [HTK.out]
      intro a ha
      rcases List.mem_append.1 ha with ha | ha
      ·
       exact HALL.out a ha
      ·
       rw [List.mem_singleton.1 ha]; exact h3
     case measure => simp [intOf]; omega
    ·
     have h3I : (300 : Int) < (x.body.length : Int) := by omega
     go_wp2_with fail
     go_ret
     refine ⟨?_, hbel⟩
     have hf : fewB acts = false := Bool.eq_false_iff.2 fun hne => h3 ((fewB_spec hne).2 x hxm)
     rw [hf]
     rfl
   ·
    have h2I : ¬ (k : Int) ≤ 60 := by omega
    have hlen : ¬ (acts.length : Int) ≤ 60 := by omega
    go_wp2_with fail
    go_ret
    refine ⟨?_, hbel⟩
    have hf : fewB acts = false := by
     unfold fewB
     rw [show decide (acts.length ≤ 60) = false from decide_eq_false (by omega), Bool.and_false]
    rw [hf]
    first | rfl | simp
  ·
   obtain rfl : k = acts.length := by omega
   have h1I : ¬ (acts.length : Int) < (acts.length : Int) := by omega
   have hall := HALL.out
   rw [List.take_of_length_le (Nat.le_refl _)] at hall
   go_wp2_with fail
   go_ret
   refine ⟨?_, hbel⟩
   have hf : fewB acts = decide ((acts.length : Int) ≤ 60) := by
    unfold fewB
    rw [show (acts.take 61).all (fun a => decide (a.body.length ≤ 300)) = true from List.all_eq_true.2 fun a ha => decide_eq_true (hall a (List.mem_of_mem_take ha)), Bool.true_and]
    congr 1
    simp only [eq_iff_iff]
    omega
   rw [hf]
   rfl
section
variable (a : ActD) (ip : List UInt8) (mac : Vector UInt8 6) (ok : Bool)
end
theorem mem_putH {c : HB} : ∀ {m : List HB} {b : HB}, b ∈ putH c m → b = c ∨ b ∈ m
 | [], b, h => .inl (by simpa [putH] using h)
 | d :: m, b, h => by
  unfold putH at h
  split at h
  ·
   rcases List.mem_cons.1 h with h | h
   ·
    exact .inl h
   ·
    exact .inr (List.mem_cons_of_mem _ h)
  ·
   rcases List.mem_cons.1 h with h | h
   ·
    exact .inr (by rw [h]; exact List.mem_cons_self)
   ·
    rcases mem_putH h with h | h
    ·
     exact .inl h
    ·
     exact .inr (List.mem_cons_of_mem _ h)
end Go.Proofs.Ytckckabedgpbiaa
