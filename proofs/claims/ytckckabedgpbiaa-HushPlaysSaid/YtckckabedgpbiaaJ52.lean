/- Texts of this proof, merged: HusV, HusWP. -/
import Derived.Test.YtckckabedgpbiaaJ47
import Derived.Test.YtckckabedgpbiaaHusUJ
import Derived.Test.YtckckabedgpbiaaActsJ
import Derived.Test.YtckckabedgpbiaaArgsJ
import Derived.WalkSmall
import Derived.Deep.QuietTactic
import Derived.BigQuiet
set_option linter.unusedSimpArgs false
set_option linter.unusedVariables false
set_option maxRecDepth 4000
namespace Go.Proofs.Ytckckabedgpbiaa
section
open Go.RowKit
theorem is_eq {c : HB} {v : Int} {ip : List UInt8} (h : c.is v ip = true) : v = c.v ∧ ip = c.ip := by
 unfold HB.is at h
 simpa [Bool.and_eq_true, beq_iff_eq] using h
theorem dist_put (c : HB) : ∀ {m : List HB}, DistH m → DistH (putH c m)
 | [], _ => by unfold putH DistH; simp
 | d :: m, h => by
  rw [DistH, List.pairwise_cons] at h
  rw [putH]
  by_cases hc : d.is c.v c.ip = true
  ·
   rw [if_pos hc, DistH, List.pairwise_cons]
   refine ⟨fun b hb => ?_, h.2⟩
   have h1 := h.1 b hb
   obtain ⟨e1, e2⟩ := is_eq hc
   unfold HB.is at h1 ⊢
   rw [e1, e2]
   exact h1
  ·
   rw [if_neg hc, DistH, List.pairwise_cons]
   refine ⟨fun b hb => ?_, dist_put c h.2⟩
   rcases mem_putH hb with rfl | hb
   ·
    exact Bool.eq_false_iff.2 hc
   ·
    exact h.1 b hb
theorem dist_learn {v : Int} {ip : List UInt8} {mac : Vector UInt8 6} {ok : Bool} {m : List HB} (h : DistH m) : DistH (learnH v ip mac ok m) := by
 unfold learnH
 split
 ·
  exact dist_put _ h
 ·
  exact h
theorem step_key {time : Int} {a x : HB} (h : stepH time a = some x) : x.v = a.v ∧ x.ip = a.ip ∧ x.age = a.age + 1 ∧ a.age + 1 < time := by
 unfold stepH at h
 split at h
 ·
  cases h
 ·
  cases h
  exact ⟨rfl, rfl, rfl, by omega⟩
theorem dist_tick (time : Int) {m : List HB} (h : DistH m) : DistH (tickH time m) := by
 unfold DistH tickH at *
 rw [List.pairwise_filterMap]
 refine h.imp fun {a b} hab x hx y hy => ?_
 obtain ⟨h1, h2, _⟩ := step_key hx
 obtain ⟨h3, h4, _⟩ := step_key hy
 unfold HB.is at *
 rw [h1, h2, h3, h4]
 exact hab
theorem age_tick {time : Int} {m : List HB} (ht : time ≤ 1000000) (h : ∀ c ∈ m, 0 ≤ c.age ∧ c.age ≤ 1000000) : ∀ c ∈ tickH time m, 0 ≤ c.age ∧ c.age ≤ 1000000 := by
 intro c hc
 unfold tickH at hc
 obtain ⟨b, hb, hbc⟩ := List.mem_filterMap.1 hc
 obtain ⟨_, _, e, hlt⟩ := step_key hbc
 have := h b hb
 omega
theorem age_learn {v : Int} {ip : List UInt8} {mac : Vector UInt8 6} {ok : Bool} {m : List HB} (h : ∀ c ∈ m, 0 ≤ c.age ∧ c.age ≤ 1000000) : ∀ c ∈ learnH v ip mac ok m, 0 ≤ c.age ∧ c.age ≤ 1000000 := by
 intro c hc
 unfold learnH at hc
 split at hc
 ·
  rcases mem_putH hc with rfl | hc
  ·
   exact ⟨by simp, by simp⟩
  ·
   exact h c hc
 ·
  exact h c hc
theorem put_length (c : HB) : ∀ m : List HB, (putH c m).length ≤ m.length + 1 ∧ (hadH c.v c.ip m = true → (putH c m).length = m.length)
 | [] => by simp [putH, hadH]
 | d :: m => by
  obtain ⟨h1, h2⟩ := put_length c m
  rw [putH]
  by_cases hc : d.is c.v c.ip = true
  ·
   rw [if_pos hc]; simp
  ·
   rw [if_neg hc]
   refine ⟨by simp; omega, fun h => ?_⟩
   have : hadH c.v c.ip m = true := by
    unfold hadH at *
    rw [List.any_cons] at h
    simpa [hc] using h
   simp [h2 this]
theorem len_learn {v : Int} {ip : List UInt8} {mac : Vector UInt8 6} {ok : Bool} {m : List HB} (h : m.length ≤ 1024) : (learnH v ip mac ok m).length ≤ 1024 := by
 unfold learnH
 obtain ⟨h1, h2⟩ := put_length ⟨v, ip, mac, 0⟩ m
 split
 ·
  rename_i hc
  simp only [Bool.and_eq_true, Bool.or_eq_true, decide_eq_true_eq] at hc
  rcases hc.2 with hc | hc
  ·
   rw [h2 hc]; exact h
  ·
   omega
 ·
  exact h
theorem find_snoc (v : Int) (ip : List UInt8) (c : HB) : ∀ m : List HB, findH v ip (m ++ [c]) = match findH v ip m with | some b => some b | none => if c.is v ip then some c else none
 | [] => by simp [findH]
 | d :: m => by
  rw [List.cons_append, findH, findH]
  split
  ·
   rfl
  ·
   exact find_snoc v ip c m
theorem find_mem {v : Int} {ip : List UInt8} : ∀ {m : List HB} {b : HB}, findH v ip m = some b → b ∈ m ∧ b.is v ip = true
 | [], b, h => by cases h
 | c :: m, b, h => by
  rw [findH] at h
  split at h
  ·
   rename_i hc
   cases h
   exact ⟨List.mem_cons_self, hc⟩
  ·
   obtain ⟨h1, h2⟩ := find_mem h
   exact ⟨List.mem_cons_of_mem _ h1, h2⟩
theorem find_miss {v : Int} {ip : List UInt8} {m : List HB} {j : Nat} (hj : j < m.length) (h : m[j].is v ip = false) : findH v ip (m.take (j + 1)) = findH v ip (m.take j) := by
 rw [List.take_succ_eq_append_getElem hj, find_snoc, h]
 cases findH v ip (m.take j) <;> rfl
theorem find_hit {v : Int} {ip : List UInt8} {m : List HB} (hd : DistH m) {j : Nat} (hj : j < m.length) (h : m[j].is v ip = true) : findH v ip (m.take j) = none ∧ findH v ip (m.take (j + 1)) = some m[j] := by
 rw [List.take_succ_eq_append_getElem hj, find_snoc, h]
 cases hf : findH v ip (m.take j) with
 | none => exact ⟨rfl, rfl⟩
 | some b =>
  exfalso
  obtain ⟨h1, h2⟩ := find_mem hf
  obtain ⟨i, hi, rfl⟩ := List.getElem_of_mem h1
  have hij : i < j := by rw [List.length_take] at hi; omega
  rw [List.getElem_take] at h2
  have := List.pairwise_iff_getElem.1 hd i j (by omega) hj hij
  obtain ⟨a1, a2⟩ := is_eq h2
  obtain ⟨c1, c2⟩ := is_eq h
  unfold HB.is at this
  rw [← a1, ← a2, ← c1, ← c2] at this
  simp at this
theorem learn_both (dst src : Vector UInt8 6) (ty : Int) (body : List UInt8) (ip : List UInt8) (mac : Vector UInt8 6) (ok : Bool) (vl : Int) (w : World) {T M : Nat} {time : Int} {m : List HB} (h : HushT w T M time m) (hTM : T ≠ M) (HA : AnnC dst src ty body ip mac ok) :
  Calls Try.prog 19 #[.pointer (some ⟨T, 0, none⟩), .int .i64 vl, .agg (frameV dst src ty body).toArray] w fun e w' => e = .returned (.bool (ok && (hadH vl ip m || decide (m.length < 1024)))) ∧ BelowBut w.heap.size M w w' ∧ HushT w' T M time (learnH vl ip mac ok m) := by
 have hT := h.lt
 have hM := h.ok.lt
 cases ok with
 | false =>
  refine (hLearn_no dst src ty body ip mac w (some ⟨T, 0, none⟩) vl HA).mono ?_
  rintro e w' ⟨rfl, b⟩
  exact ⟨rfl, BelowBut.of b, h.below b hT hM⟩
 | true =>
  by_cases h1 : findH vl ip m ≠ none ∨ m.length < 1024
  ·
   have hb : (hadH vl ip m || decide (m.length < 1024)) = true := by
    rcases h1 with h1 | h1
    ·
     rw [(had_find vl ip m).2 h1, Bool.true_or]
    ·
     rw [decide_eq_true h1, Bool.or_true]
   refine (hLearn_kept dst src ty body ip mac w vl h hTM HA h1).mono ?_
   rintro e w' ⟨rfl, b, h'⟩
   unfold learnH
   rw [hb]
   exact ⟨rfl, b, h'⟩
  ·
   have h2 : findH vl ip m = none ∧ 1024 ≤ m.length :=
    ⟨Classical.byContradiction fun hc => h1 (.inl hc), Classical.byContradiction fun hc => h1 (.inr (by omega))⟩
   have hb : (hadH vl ip m || decide (m.length < 1024)) = false := by
    rw [decide_eq_false (by omega), Bool.or_false]
    exact Bool.eq_false_iff.2 fun hc => (had_find vl ip m).1 hc h2.1
   refine (hLearn_full dst src ty body ip mac w vl h HA h2.1 h2.2).mono ?_
   rintro e w' ⟨rfl, b⟩
   unfold learnH
   rw [hb]
   exact ⟨rfl, BelowBut.of b, h.below b hT hM⟩
theorem act_load {W : World} {b o : Nat} {x : ActD} (h : W.rangeAt b o (actC x)) : (loadS 36 (.pointer (some ⟨b, o, none⟩))).run Try.prog W = .ok (.agg (actC x).toArray) W := run_loadS_at h (by simp)
theorem bind_at {W : World} {b o : Nat} {c : HB} (h : W.rangeAt b o (bindC c)) : W.cell? ⟨b, o, none⟩ = some (.int .i64 c.v) ∧ W.cell? ⟨b, o + 1, none⟩ = some (.string ⟨c.ip.toArray⟩) ∧ (loadS 30 (.pointer (some ⟨b, o + 2, none⟩))).run Try.prog W = .ok (.agg (u8v c.mac).toArray) W := by
 have e : bindC c = [.int .i64 c.v] ++ ([.string ⟨c.ip.toArray⟩] ++ (u8v c.mac ++ [.int .i64 c.age])) := by simp [bindC]
 refine ⟨h 0 _ rfl, h 1 _ rfl, ?_⟩
 have := rangeAt_part (l := [.int .i64 c.v] ++ [.string ⟨c.ip.toArray⟩]) (m := u8v c.mac) (r := [.int .i64 c.age]) (k := 2) (by rw [e] at h; simpa only [List.append_assoc] using h) (by simp)
 exact run_loadS_at this (by simp)
end
section
open Go.ChangeShapes Go.WideShapes Go.ChangeAt Go.RowKit
def ansR (src : Vector UInt8 6) (ty : Int) (ans : Vector UInt8 6 → List UInt8) : Option HB → List Value
 | none => zeros 12 (Value.int .u8 0) ++ [Value.int .i64 0, Value.string ⟨#[]⟩]
 | some c => u8v src ++ (u8v c.mac ++ [Value.int .i64 ty, Value.string ⟨(ans c.mac).toArray⟩])
theorem ansR_length (src : Vector UInt8 6) (ty : Int) (ans : Vector UInt8 6 → List UInt8) (o : Option HB) : (ansR src ty ans o).length = 14 := by
 cases o <;> simp [ansR]
theorem st_one {r : Result Next} {K : World → Prop} {R : Value → World → Prop} {W : World} (hs : Stores r W) (hK : K W) (hR : ∀ v, R v W) : ∃ n v w2, r = .ok n w2 ∧ nextV n = some v ∧ K w2 ∧ R v w2 := by
 obtain ⟨n, v, h1, h2⟩ := hs
 exact ⟨n, v, W, h1, h2, hK, hR v⟩
attribute [local irreducible] tickH learnH findH hadH
set_option maxRecDepth 20000 in
set_option maxHeartbeats 8000000 in
theorem hushPlays_any (time : Int) (a : Option Addr) (cap : Nat) (acts : List ActD) (w : World) (h : ActsAt w a acts) :
  Calls Try.prog 5 #[.int .i64 time, .slice a acts.length cap] w fun e w' => e = .returned (.bool true) ∧ Below w.heap.size w w' := by
 have hm := h.1
 have hm2 : (acts.length : Int) ≤ 9223372036854775807 := by unfold maxLen at hm; omega
 go_enter Try.func5, Try.ntmps5
 go_wp2_with fail
 (with_reducible refine (awake21_any _).mono ?_)
 rintro e w1 ⟨rfl, b1⟩
 have h1 := h.below b1
 go_wp2_with fail
 (with_reducible refine (few21_any a cap acts _ h1).mono ?_)
 rintro e w2 ⟨rfl, b2⟩
 have z1 := b1.size
 have z2 := b2.size
 have bb2 : Below w.heap.size w w2 := b1.trans (b2.mono (by omega))
 clear b1 b2 h1
 by_cases hfew : fewB acts = true
 case neg =>
  rw [Bool.eq_false_iff.2 hfew]
  go_wp2_with fail
  (with_reducible refine (awake21_any _).mono ?_)
  rintro e w3 ⟨rfl, b3⟩
  go_wp2_with fail
  go_ret
  exact ⟨rfl, bb2.trans (b3.mono (by omega))⟩
 have hsp := fewB_spec hfew
 rw [hfew]
 have HSP := Lib.hid hsp
 clear hsp hfew
 by_cases ht : time < 1 ∨ 1000000 < time
 ·
  go_wp2_with fail
  (with_reducible refine (hNew_bad time _ ht).mono ?_)
  rintro e w3 ⟨rfl, b3⟩
  rcases ht with ht | ht
  ·
   go_wp2_with fail
   go_ret
   exact ⟨rfl, bb2.trans (b3.mono (by omega))⟩
  ·
   have ht2 : ¬ time < 1 := by omega
   go_wp2_with fail
   go_ret
   exact ⟨rfl, bb2.trans (b3.mono (by omega))⟩
 have ht1 : ¬ time < 1 := by omega
 have ht2 : ¬ 1000000 < time := by omega
 go_wp2_with fail
 (with_reducible refine (hNew_ok time _ (by omega) (by omega)).mono ?_)
 rintro e w3 ⟨rfl, b3, hT, z3⟩
 have bb3 := bb2.trans (b3.mono (by omega))
 obtain ⟨A, hA⟩ : ∃ x, w2.heap.size + 1 = x := ⟨_, rfl⟩
 obtain ⟨M, hM⟩ : ∃ x, w2.heap.size = x := ⟨_, rfl⟩
 rw [hA, hM] at hT
 rw [hA]
 have hAM : A ≠ M := by omega
 have hMw : w.heap.size ≤ M := by omega
 have hAw : w.heap.size ≤ A := by omega
 clear b3 bb2 hA hM z1 z2 z3 ht
 have HT1 := Lib.hid ht1
 have HT2 := Lib.hid ht2
 go_wp2_with fail
 clear ht1 ht2
 go_loopw [7, 8] (fun sv i wr => ∃ (k : Nat) (m : List HB) (a' : Option Addr) (cap' : Nat), k ≤ acts.length ∧ i = .int .i64 k ∧ sv = .slice a' m.length cap' ∧ HushT wr A M time m ∧ ElemsAt wr a' 9 (m.map bindC) ∧ (DistH m ∧ (∀ c ∈ m, 0 ≤ c.age ∧ c.age ≤ 1000000) ∧ m.length ≤ 1024) ∧ Below w.heap.size w wr) (fun _ i _ => acts.length - (intOf i).toNat)
 case atStart => exact ⟨0, [], none, 0, by omega, rfl, rfl, hT, ElemsAt.nil _ _ _, ⟨List.Pairwise.nil, (fun c hc => by cases hc), by simp⟩, bb3⟩
 case round =>
  clear hT bb3
  obtain ⟨k, m, a', cap', hk, rfl, rfl, hT, hel, hgood, B1⟩ := hrel
  have HG := Lib.hid hgood
  clear hgood
  by_cases hkn : k < acts.length
  ·
   have hkI : (k : Int) < (acts.length : Int) := by omega
   obtain ⟨x, hx⟩ : ∃ x, acts[k] = x := ⟨_, rfl⟩
   have hx? : acts[k]? = some x := by rw [List.getElem?_eq_getElem hkn, hx]
   have hxb : x.body.length ≤ 300 := HSP.out.2 x (by rw [← hx]; exact List.getElem_mem _)
   obtain ⟨b, off, rfl, hb, hrange⟩ := h.2 k x hx?
   clear hx hx?
   obtain ⟨o, ho⟩ : ∃ o, off + k * 16 = o := ⟨_, rfl⟩
   rw [ho] at hrange
   have hact := act_load (hrange wr (blk_below B1 hb))
   clear hrange
   obtain ⟨X, hX⟩ : ∃ v, wr.heap.size = v := ⟨_, rfl⟩
   obtain ⟨W1, hW1⟩ : ∃ v, wr.alloc (.cells (actC x).toArray 36) = v := ⟨_, rfl⟩
   have rX : row W1 X = (actC x).toArray := by rw [← hX, ← hW1]; exact row_alloc_at _ _ _ rfl
   have zX : X < W1.heap.size := by rw [← hX, ← hW1, alloc_sizeW]; omega
   have bX : Below wr.heap.size wr W1 := by rw [← hW1]; exact Below.alloc (Below.refl _ _) (Nat.le_refl _) _
   have hXM : X ≠ M := by have := hT.ok.lt; omega
   have hXw : w.heap.size ≤ X := by have := B1.size; omega
   have hT1 := hT.below bX hT.lt hT.ok.lt
   have hel1 := hel.below bX
   have BW1 := B1.trans (bX.mono B1.size)
   unfold actC at hact hW1 rX
   unfold frameV at hact hW1 rX
   clear hT hel bX B1
   obtain ⟨ip, mac, ok, hAB⟩ := ann_both x.dst x.src x.ty x.body (by omega)
   have HLP := Lib.hid (fun (W : World) (hW : HushT W A M time m) => learn_both x.dst x.src x.ty x.body ip mac ok x.v W hW hAM hAB.prog)
   have HLR := Lib.hid (fun (W : World) (hW : ElemsAt W a' 9 (m.map bindC)) => rlearn_any x.dst x.src x.ty x.body ip mac ok hAB.ref x.v m a' cap' W hW HG.out.2.2 HG.out.1)
   have HTK := Lib.hid (fun (W : World) (hW : HushT W A M time m) => hTick_any W hW hAM HG.out.1 HG.out.2.1)
   have HOL := Lib.hid (fun (W : World) (hW : ElemsAt W a' 9 (m.map bindC)) => older_any time m a' cap' W hW HG.out.2.2 HG.out.2.1)
   have HAB := Lib.hid (asks_both x.dst x.src x.ty x.body (by omega))
   clear hAB
   unfold frameV at HLP HLR
   have hmI : (m.length : Int) ≤ 1024 := by have := HG.out.2.2; omega
   go_wp2_with fail
   ·
    clear hact
    try clear hW1
    (with_reducible refine (HTK.out _ hT1).mono ?_)
    rintro e W2 ⟨rfl, c2, hT2⟩
    have hel2 := hel1.but c2 hT1.ok (fun y hy => by obtain ⟨c, _, rfl⟩ := List.mem_map.1 hy; simp [bindC])
    have rX2 := (row_of_block (c2.block X zX hXM)).trans rX
    have zW2 := c2.size
    have zX2 : X < W2.heap.size := by omega
    have B2 : Below w.heap.size w W2 := BW1.trans ((c2.mono BW1.size).below hMw)
    clear c2 hT1 hel1 rX BW1
    go_wp2_with fail
    (with_reducible refine (HOL.out _ hel2).mono ?_)
    rintro e V ⟨v', rfl, hown, c3⟩
    obtain ⟨a2, cap2, rfl, hel⟩ := hown.elems
    have hT := hT2.below c3 hT2.lt hT2.ok.lt
    have rX := (row_below c3 zX2).trans rX2
    have zV := c3.size
    have zXV : X < V.heap.size := by omega
    have BV := B2.trans (c3.mono B2.size)
    clear hown c3 hT2 hel2 rX2 B2 zW2 zX zX2
    have hgood : DistH (tickH time m) ∧ (∀ c ∈ tickH time m, 0 ≤ c.age ∧ c.age ≤ 1000000) ∧ (tickH time m).length ≤ 1024 := ⟨dist_tick time HG.out.1, age_tick (by have := HT2.out; omega) HG.out.2.1, Nat.le_trans (tickH_length time m) HG.out.2.2⟩
    have HG := Lib.hid hgood
    clear hgood
    rw [List.length_map]
    obtain ⟨m', hm'⟩ : ∃ l, tickH time m = l := ⟨_, rfl⟩
    rw [hm'] at hel hT HG
    rw [hm']
    clear hm' hmI
    have hmI : (m'.length : Int) ≤ 1024 := by have := HG.out.2.2; omega
    rcases HAB.out with ⟨hno, ipq, hask⟩ | ⟨ipq, ans, hs, hask, hansr⟩
    ·
     clear HAB
     have KA := Lib.hid (fun (W : World) (_ : HushT W A M time m') => hno W ⟨A, 0, none⟩ x.v)
     clear hno
     unfold AnsC at KA
     try unfold zeroFr at KA
     unfold RAskC at hask
     unfold frameV at KA hask
     have KQ := Lib.hid hask
     clear hask
     go_wp2_with fail
     (with_reducible refine (KA.out _ hT).mono ?_)
     rintro e Y1 ⟨rfl, c1⟩
     have zY1 := c1.size
     obtain ⟨F, hF⟩ : ∃ v, Y1.heap.size = v := ⟨_, rfl⟩
     obtain ⟨Ya, hYa⟩ : ∃ v, Y1.alloc (.cells (zeros 12 (Value.int .u8 0) ++ [Value.int .i64 0, Value.string ⟨#[]⟩]).toArray 32) = v := ⟨_, rfl⟩
     have rYa : row Ya F = (zeros 12 (Value.int .u8 0) ++ [Value.int .i64 0, Value.string ⟨#[]⟩]).toArray := by rw [← hF, ← hYa]; exact row_alloc_at _ _ _ rfl
     have zYa : Ya.heap.size = F + 1 := by rw [← hF, ← hYa]; exact alloc_sizeW _ _
     have cYa : Below V.heap.size V Ya := by rw [← hYa]; exact Below.alloc c1 (by omega) _
     obtain ⟨Y2, hY2⟩ : ∃ v, Ya.setRow F (zeros 12 (Value.int .u8 0) ++ [Value.int .i64 0, Value.string ⟨#[]⟩]).toArray = v := ⟨_, rfl⟩
     have rF : row Y2 F = (zeros 12 (Value.int .u8 0) ++ [Value.int .i64 0, Value.string ⟨#[]⟩]).toArray := by rw [← hY2]; exact row_setRow_same (by rw [rYa]; simp) (by rw [rYa])
     have zY2 : Y2.heap.size = F + 1 := by rw [← hY2, setRow_size, zYa]
     have c2 : Below V.heap.size V Y2 := by rw [← hY2]; exact Below.setRow cYa (by omega) _
     have rX2 := (row_below c2 zXV).trans rX
     have zX2 : X < Y2.heap.size := by omega
     rw [hF] at zY1
     go_wp2_with fail
     clear hY2 c1
     try clear hYa rYa zYa cYa
     (with_reducible refine (KQ.out _).mono ?_)
     rintro e Y3 ⟨rfl, c3⟩
     have zY3 := c3.size
     obtain ⟨Y4, hY4⟩ : ∃ v, Y3.alloc (.cells (zeros 12 (Value.int .u8 0) ++ [Value.int .i64 0, Value.string ⟨#[]⟩]).toArray 32) = v := ⟨_, rfl⟩
     obtain ⟨G, hGd⟩ : ∃ v, Y3.heap.size = v := ⟨_, rfl⟩
     have rG : row Y4 G = (zeros 12 (Value.int .u8 0) ++ [Value.int .i64 0, Value.string ⟨#[]⟩]).toArray := by rw [← hGd, ← hY4]; exact row_alloc_at _ _ _ rfl
     have zY4 : Y4.heap.size = G + 1 := by rw [← hGd, ← hY4]; exact alloc_sizeW _ _
     have c34 : Below Y2.heap.size Y2 Y4 := by rw [← hY4]; exact Below.alloc c3 (by omega) _
     have c4 : Below V.heap.size V Y4 := c2.trans (c34.mono c2.size)
     have rF4 := (row_below c34 (by omega)).trans rF
     have gF : V.heap.size ≤ F := zY1
     have gG : V.heap.size ≤ G := by have := c2.size; omega
     have gFG : F < G := by omega
     go_wp2_with fail
     try clear rYa zYa cYa hYa
     clear hY4 c3 c2 rF rX2 zX2 c34 hF hGd
     go_loopw [16, 18] (fun wt i wq => ∃ j : Nat, j ≤ m'.length ∧ i = .int .i64 j ∧ wt = .bool false ∧ row wq F = (zeros 12 (Value.int .u8 0) ++ [Value.int .i64 0, Value.string ⟨#[]⟩]).toArray ∧ row wq G = (zeros 12 (Value.int .u8 0) ++ [Value.int .i64 0, Value.string ⟨#[]⟩]).toArray ∧ Below V.heap.size V wq ∧ F < wq.heap.size ∧ G < wq.heap.size) (fun _ i _ => m'.length - (intOf i).toNat)
     case atStart => exact ⟨0, by omega, rfl, rfl, rF4, rG, c4, by omega, by omega⟩
     case round =>
      clear rF4 rG c4 zY4 zY3 zY2
      obtain ⟨j, hj, rfl, rfl, rF, rG, bq, zF, zG⟩ := hrel
      by_cases hjk : j < m'.length
      ·
       have hjI : (j : Int) < (m'.length : Int) := by omega
       go_wp2_with fail
       go_quiet (fail)
       go_wp2_with fail
       go_roundw
       case rel => exact ⟨j + 1, by omega, by simp, rfl, rF, rG, below_drewN bq _, zF, zG⟩
       case measure => simp [intOf]; omega
      ·
       obtain rfl : j = m'.length := by omega
       have hjI : ¬ (m'.length : Int) < (m'.length : Int) := by omega
       have zq := bq.size
       have hTq := hT.below bq hT.lt hT.ok.lt
       go_wp2_with fail
       (with_reducible refine (hCount_any _ hTq).mono ?_)
       rintro e u ⟨rfl, cu⟩
       go_wp2_with fail
       go_roundw
       case rel => exact ⟨k + 1, m', a2, cap2, by omega, by simp, rfl, hTq.below cu hTq.lt hTq.ok.lt, (hel.below bq).below cu, HG.out, (BV.trans (bq.mono BV.size)).trans (cu.mono (by have := BV.size; omega))⟩
       case measure => simp [intOf]; omega
    ·
     clear HAB
     cases hf : findH x.v ipq m' with
     | none =>
      have hka : ∀ W, HushT W A M time m' → AnsC (some ⟨A, 0, none⟩) x.v x.dst x.src x.ty x.body W zeroFr false := fun W hW => hs.none x.v hW (by unfold foundH; rw [hf]; rfl)
      have HF := Lib.hid hf
      clear hf hs
      have KA := Lib.hid hka
      clear hka
      unfold AnsC at KA
      try unfold zeroFr at KA
      unfold RAskC at hask
      unfold frameV at KA hask
      have KQ := Lib.hid hask
      clear hask
      go_wp2_with fail
      (with_reducible refine (KA.out _ hT).mono ?_)
      rintro e Y1 ⟨rfl, c1⟩
      have zY1 := c1.size
      obtain ⟨F, hF⟩ : ∃ v, Y1.heap.size = v := ⟨_, rfl⟩
      obtain ⟨Ya, hYa⟩ : ∃ v, Y1.alloc (.cells (zeros 12 (Value.int .u8 0) ++ [Value.int .i64 0, Value.string ⟨#[]⟩]).toArray 32) = v := ⟨_, rfl⟩
      have rYa : row Ya F = (zeros 12 (Value.int .u8 0) ++ [Value.int .i64 0, Value.string ⟨#[]⟩]).toArray := by rw [← hF, ← hYa]; exact row_alloc_at _ _ _ rfl
      have zYa : Ya.heap.size = F + 1 := by rw [← hF, ← hYa]; exact alloc_sizeW _ _
      have cYa : Below V.heap.size V Ya := by rw [← hYa]; exact Below.alloc c1 (by omega) _
      obtain ⟨Y2, hY2⟩ : ∃ v, Ya.setRow F (zeros 12 (Value.int .u8 0) ++ [Value.int .i64 0, Value.string ⟨#[]⟩]).toArray = v := ⟨_, rfl⟩
      have rF : row Y2 F = (zeros 12 (Value.int .u8 0) ++ [Value.int .i64 0, Value.string ⟨#[]⟩]).toArray := by rw [← hY2]; exact row_setRow_same (by rw [rYa]; simp) (by rw [rYa])
      have zY2 : Y2.heap.size = F + 1 := by rw [← hY2, setRow_size, zYa]
      have c2 : Below V.heap.size V Y2 := by rw [← hY2]; exact Below.setRow cYa (by omega) _
      have rX2 := (row_below c2 zXV).trans rX
      have zX2 : X < Y2.heap.size := by omega
      rw [hF] at zY1
      go_wp2_with fail
      clear hY2 c1
      try clear hYa rYa zYa cYa
      (with_reducible refine (KQ.out _).mono ?_)
      rintro e Y3 ⟨rfl, c3⟩
      have zY3 := c3.size
      obtain ⟨Y4, hY4⟩ : ∃ v, Y3.alloc (.cells (zeros 12 (Value.int .u8 0) ++ [Value.int .i64 0, Value.string ⟨#[]⟩]).toArray 32) = v := ⟨_, rfl⟩
      obtain ⟨G, hGd⟩ : ∃ v, Y3.heap.size = v := ⟨_, rfl⟩
      have rG : row Y4 G = (zeros 12 (Value.int .u8 0) ++ [Value.int .i64 0, Value.string ⟨#[]⟩]).toArray := by rw [← hGd, ← hY4]; exact row_alloc_at _ _ _ rfl
      have zY4 : Y4.heap.size = G + 1 := by rw [← hGd, ← hY4]; exact alloc_sizeW _ _
      have c34 : Below Y2.heap.size Y2 Y4 := by rw [← hY4]; exact Below.alloc c3 (by omega) _
      have c4 : Below V.heap.size V Y4 := c2.trans (c34.mono c2.size)
      have rF4 := (row_below c34 (by omega)).trans rF
      have gF : V.heap.size ≤ F := zY1
      have gG : V.heap.size ≤ G := by have := c2.size; omega
      have gFG : F < G := by omega
      go_wp2_with fail
      try clear rYa zYa cYa hYa
      clear hY4 c3 c2 rF rX2 zX2 c34 hF hGd
      go_loopw [16, 18] (fun wt i wq => ∃ j : Nat, j ≤ m'.length ∧ i = .int .i64 j ∧ wt = .bool (findH x.v ipq (m'.take j)).isSome ∧ row wq F = (zeros 12 (Value.int .u8 0) ++ [Value.int .i64 0, Value.string ⟨#[]⟩]).toArray ∧ row wq G = (ansR x.src x.ty ans (findH x.v ipq (m'.take j))).toArray ∧ Below V.heap.size V wq ∧ F < wq.heap.size ∧ G < wq.heap.size) (fun _ i _ => m'.length - (intOf i).toNat)
      case atStart => exact ⟨0, by omega, rfl, by rw [List.take_zero, findH]; rfl, rF4, by rw [List.take_zero, findH]; exact rG, c4, by omega, by omega⟩
      case round =>
       clear rF4 rG c4 zY4 zY3 zY2
       obtain ⟨j, hj, rfl, rfl, rF, rG, bq, zF, zG⟩ := hrel
       by_cases hjk : j < m'.length
       ·
        have hjI : (j : Int) < (m'.length : Int) := by omega
        obtain ⟨b', off', rfl, hb', hrange'⟩ := elem_of hel hjk
        obtain ⟨d, hd⟩ : ∃ d, m'[j] = d := ⟨_, rfl⟩
        rw [hd] at hrange'
        obtain ⟨o', ho'⟩ : ∃ o', off' + j * 9 = o' := ⟨_, rfl⟩
        rw [ho'] at hrange'
        have hbq : blk wr b' = blk V b' := blk_below bq hb'
        obtain ⟨hcv, hci, _⟩ := bind_at (hrange' wr hbq)
        have hmac := fun W hW => (bind_at (hrange' W hW)).2.2
        clear hrange'
        have zq := bq.size
        have rXq := (row_below bq zXV).trans rX
        obtain ⟨gl, hgl⟩ : ∃ l, ansR x.src x.ty ans (findH x.v ipq (m'.take j)) = l := ⟨_, rfl⟩
        have hgl14 : gl.length = 14 := by rw [← hgl]; exact ansR_length _ _ _ _
        obtain ⟨wt, hwt⟩ : ∃ l, (findH x.v ipq (m'.take j)).isSome = l := ⟨_, rfl⟩
        rw [hgl] at rG
        rw [hwt]
        have HGL := Lib.hid hgl
        have HWT := Lib.hid hwt
        have HD := Lib.hid hd
        clear hgl hwt hd
        by_cases hmt : d.is x.v ipq = true
        ·
         obtain ⟨q1, q2⟩ := is_eq hmt
         have e1 : (d.v == x.v) = true := by rw [q1]; simp
         have e2 : (d.ip == ipq) = true := by rw [q2]; simp
         have hfh : findH x.v ipq (m'.take j) = none ∧ findH x.v ipq (m'.take (j + 1)) = some d := by
          rw [← HD.out]
          exact find_hit HG.out.1 hjk (by rw [HD.out]; exact hmt)
         have hglz : gl = zeros 12 (Value.int .u8 0) ++ [Value.int .i64 0, Value.string ⟨#[]⟩] := by rw [← HGL.out, hfh.1]; rfl
         subst hglz
         have HFH := Lib.hid hfh
         have KR := Lib.hid (hansr d.mac)
         unfold RAnsC frameV at KR
         clear hfh hmt q1 q2
         go_wp2_with fail
         go_quiet (fail)
         go_wp2_with fail
         obtain ⟨U, hU⟩ : ∃ v, wr.drewN nq = v := ⟨_, rfl⟩
         have rXU : row U X = (Value.int .u8 x.d :: (Value.int .i64 x.v :: (u8v x.dst ++ (u8v x.src ++ [Value.int .i64 x.ty, Value.string ⟨x.body.toArray⟩])))).toArray := by rw [← hU]; exact rXq
         have rGU : row U G = (zeros 12 (Value.int .u8 0) ++ [Value.int .i64 0, Value.string ⟨#[]⟩]).toArray := by rw [← hU]; exact rG
         have rFU : row U F = (zeros 12 (Value.int .u8 0) ++ [Value.int .i64 0, Value.string ⟨#[]⟩]).toArray := by rw [← hU]; exact rF
         have bU : Below V.heap.size V U := by rw [← hU]; exact below_drewN bq _
         have zU : U.heap.size = wr.heap.size := by rw [← hU]; rfl
         have hbU : blk U b' = blk V b' := blk_below bU hb'
         have zXU : X < U.heap.size := by omega
         have zbU : b' < U.heap.size := by omega
         rw [hU]
         clear hU rXq rG rF bq hbq hcv hci
         have hG := grow_blk b' (blk V b')
         refine wp_region_beginX [(X, (Value.int .u8 x.d :: (Value.int .i64 x.v :: (u8v x.dst ++ (u8v x.src ++ [Value.int .i64 x.ty, Value.string ⟨x.body.toArray⟩])))).toArray)] (fun w' => blk w' b' = blk V b' ∧ b' < w'.heap.size) hG rfl (by simp only [Rws]; (repeat (first | exact trivial | refine ⟨(by first | assumption | (simp [go_sem, *]; done)), (by first | omega | (simp; done) | (simp; omega)), ?_⟩))) (⟨hbU, zbU⟩) (fun hS => ?_)
         refine sp 0 hG hS ?_
         refine sp 1 hG hS ?_
         refine sp 2 hG hS ?_
         refine sp 3 hG hS ?_
         refine sp 4 hG hS ?_
         refine sp 5 hG hS ?_
         refine sp 6 hG hS ?_
         refine sc 7 (v := ?_) hG hS ?_ ?_
         rotate_left
         ·
          intro w' hS'
          obtain ⟨hS', hX'⟩ := hS'
          simp only [Rws] at hS'
          go_simp
          with_reducible refine (KR.out _).mono ?_
          rintro e w'' ⟨rfl, hb⟩
          exact ⟨_, rfl, by rfl, hb⟩
         refine wpAnyR_one (i := 8) (by simp only [List.getElem?_toArray, List.getElem?_cons_succ, List.getElem?_cons_zero]; rfl) rfl (by kernel_rfl) (fun y1 by1 => ?_)
         replace by1 : Below U.heap.size U y1 := below_step (Below.drew (Below.refl _ _)) by1
         have zy1 := by1.size
         have rG1 := (row_below by1 (by omega)).trans rGU
         have rF1 := (row_below by1 (by omega)).trans rFU
         have rX1 := (row_below by1 zXU).trans rXU
         obtain ⟨y2, hy2⟩ : ∃ v, y1.setRow G (u8v x.src ++ (u8v d.mac ++ [Value.int .i64 x.ty, Value.string ⟨(ans d.mac).toArray⟩])).toArray = v := ⟨_, rfl⟩
         have rG2 : row y2 G = (u8v x.src ++ (u8v d.mac ++ [Value.int .i64 x.ty, Value.string ⟨(ans d.mac).toArray⟩])).toArray := by rw [← hy2]; exact row_setRow_same (by rw [rG1]; simp) (by rw [rG1]; simp)
         have rF2 : row y2 F = (zeros 12 (Value.int .u8 0) ++ [Value.int .i64 0, Value.string ⟨#[]⟩]).toArray := by rw [← hy2, row_setRow_other _ _ _ (by omega)]; exact rF1
         have rX2 : row y2 X = (Value.int .u8 x.d :: (Value.int .i64 x.v :: (u8v x.dst ++ (u8v x.src ++ [Value.int .i64 x.ty, Value.string ⟨x.body.toArray⟩])))).toArray := by rw [← hy2, row_setRow_other _ _ _ (by omega)]; exact rX1
         have zy2 : y2.heap.size = y1.heap.size := by rw [← hy2, setRow_size]
         have by2 : Below V.heap.size V y2 := by rw [← hy2]; exact Below.setRow (bU.trans (by1.mono (by omega))) gG _
         refine st_one (W := y2) ?_ ⟨?_, ?_⟩ (fun v => ?_)
         ·
          rw [← hy2]
          go_simp
          try rfl
         ·
          simp only [Rws]
          exact ⟨rX2, by omega, trivial⟩
         ·
          exact ⟨blk_below by2 hb', by omega⟩
         ·
          (try simp only [Act.put])
          refine wpAnyR_done (by kernel_rfl) (fun y3 by3 => ?_) _
          have zy3 := by3.size
          have rG3 := (row_below by3 (by omega)).trans rG2
          have rF3 := (row_below by3 (by omega)).trans rF2
          have bb3 := by2.trans (by3.mono (by omega))
          clear hS hy2 rG2 rF2 rX2 rG1 rF1 rX1 rGU rFU rXU by1 by2 by3 hG
          go_wp2_with fail
          go_roundw
          case rel => exact ⟨j + 1, by omega, by simp, by rw [HFH.out.2]; rfl, rF3, by rw [HFH.out.2]; exact rG3, bb3, by omega, by omega⟩
          case measure => simp [intOf]; omega
        ·
         have hfh : findH x.v ipq (m'.take (j + 1)) = findH x.v ipq (m'.take j) := find_miss hjk (by rw [HD.out]; exact Bool.eq_false_iff.2 hmt)
         have HFH := Lib.hid hfh
         have hcase : (d.v == x.v) = false ∨ (d.v == x.v) = true ∧ (d.ip == ipq) = false := by
          have h0 := Bool.eq_false_iff.2 hmt
          unfold HB.is at h0
          rw [Bool.beq_comm (a := x.v), Bool.beq_comm (a := ipq)] at h0
          cases h1 : (d.v == x.v) with
          | false => exact .inl rfl
          | true => rw [h1, Bool.true_and] at h0; exact .inr ⟨rfl, h0⟩
         clear hfh hmt
         rcases hcase with e1 | ⟨e1, e2⟩
         all_goals
          go_wp2_with fail
          go_quiet (fail)
          go_wp2_with fail
          go_roundw
          case rel => exact ⟨j + 1, by omega, by simp, by rw [HFH.out, HWT.out], rF, by rw [HFH.out, HGL.out]; exact rG, below_drewN bq _, zF, zG⟩
          case measure => simp [intOf]; omega
       ·
        obtain rfl : j = m'.length := by omega
        rw [List.take_of_length_le (Nat.le_refl _), HF.out] at rG
        rw [List.take_of_length_le (Nat.le_refl _), HF.out]
        replace rG : row wr G = (zeros 12 (Value.int .u8 0) ++ [Value.int .i64 0, Value.string ⟨#[]⟩]).toArray := rG
        have hjI : ¬ (m'.length : Int) < (m'.length : Int) := by omega
        have zq := bq.size
        have hTq := hT.below bq hT.lt hT.ok.lt
        go_wp2_with fail
        (with_reducible refine (hCount_any _ hTq).mono ?_)
        rintro e u ⟨rfl, cu⟩
        go_wp2_with fail
        go_roundw
        case rel => exact ⟨k + 1, m', a2, cap2, by omega, by simp, rfl, hTq.below cu hTq.lt hTq.ok.lt, (hel.below bq).below cu, HG.out, (BV.trans (bq.mono BV.size)).trans (cu.mono (by have := BV.size; omega))⟩
        case measure => simp [intOf]; omega
     | some c =>
      have hka : ∀ W, HushT W A M time m' → AnsC (some ⟨A, 0, none⟩) x.v x.dst x.src x.ty x.body W (frameV x.src c.mac x.ty (ans c.mac)) true := fun W hW => hs.some x.v c.mac hW (by unfold foundH; rw [hf])
      have HF := Lib.hid hf
      clear hf hs
      have KA := Lib.hid hka
      clear hka
      unfold AnsC at KA
      try unfold zeroFr at KA
      unfold RAskC at hask
      unfold frameV at KA hask
      have KQ := Lib.hid hask
      clear hask
      go_wp2_with fail
      (with_reducible refine (KA.out _ hT).mono ?_)
      rintro e Y1 ⟨rfl, c1⟩
      have zY1 := c1.size
      obtain ⟨Y2, hY2⟩ : ∃ v, Y1.alloc (.cells (u8v x.src ++ (u8v c.mac ++ [Value.int .i64 x.ty, Value.string ⟨(ans c.mac).toArray⟩])).toArray 32) = v := ⟨_, rfl⟩
      obtain ⟨F, hF⟩ : ∃ v, Y1.heap.size = v := ⟨_, rfl⟩
      have rF : row Y2 F = (u8v x.src ++ (u8v c.mac ++ [Value.int .i64 x.ty, Value.string ⟨(ans c.mac).toArray⟩])).toArray := by rw [← hF, ← hY2]; exact row_alloc_at _ _ _ rfl
      have zY2 : Y2.heap.size = F + 1 := by rw [← hF, ← hY2]; exact alloc_sizeW _ _
      have c2 : Below V.heap.size V Y2 := by rw [← hY2]; exact Below.alloc c1 (by omega) _
      have rX2 := (row_below c2 zXV).trans rX
      have zX2 : X < Y2.heap.size := by omega
      rw [hF] at zY1
      go_wp2_with fail
      clear hY2 c1
      try clear hYa rYa zYa cYa
      (with_reducible refine (KQ.out _).mono ?_)
      rintro e Y3 ⟨rfl, c3⟩
      have zY3 := c3.size
      obtain ⟨Y4, hY4⟩ : ∃ v, Y3.alloc (.cells (zeros 12 (Value.int .u8 0) ++ [Value.int .i64 0, Value.string ⟨#[]⟩]).toArray 32) = v := ⟨_, rfl⟩
      obtain ⟨G, hGd⟩ : ∃ v, Y3.heap.size = v := ⟨_, rfl⟩
      have rG : row Y4 G = (zeros 12 (Value.int .u8 0) ++ [Value.int .i64 0, Value.string ⟨#[]⟩]).toArray := by rw [← hGd, ← hY4]; exact row_alloc_at _ _ _ rfl
      have zY4 : Y4.heap.size = G + 1 := by rw [← hGd, ← hY4]; exact alloc_sizeW _ _
      have c34 : Below Y2.heap.size Y2 Y4 := by rw [← hY4]; exact Below.alloc c3 (by omega) _
      have c4 : Below V.heap.size V Y4 := c2.trans (c34.mono c2.size)
      have rF4 := (row_below c34 (by omega)).trans rF
      have gF : V.heap.size ≤ F := zY1
      have gG : V.heap.size ≤ G := by have := c2.size; omega
      have gFG : F < G := by omega
      go_wp2_with fail
      try clear rYa zYa cYa hYa
      clear hY4 c3 c2 rF rX2 zX2 c34 hF hGd
      go_loopw [16, 18] (fun wt i wq => ∃ j : Nat, j ≤ m'.length ∧ i = .int .i64 j ∧ wt = .bool (findH x.v ipq (m'.take j)).isSome ∧ row wq F = (u8v x.src ++ (u8v c.mac ++ [Value.int .i64 x.ty, Value.string ⟨(ans c.mac).toArray⟩])).toArray ∧ row wq G = (ansR x.src x.ty ans (findH x.v ipq (m'.take j))).toArray ∧ Below V.heap.size V wq ∧ F < wq.heap.size ∧ G < wq.heap.size) (fun _ i _ => m'.length - (intOf i).toNat)
      case atStart => exact ⟨0, by omega, rfl, by rw [List.take_zero, findH]; rfl, rF4, by rw [List.take_zero, findH]; exact rG, c4, by omega, by omega⟩
      case round =>
       clear rF4 rG c4 zY4 zY3 zY2
       obtain ⟨j, hj, rfl, rfl, rF, rG, bq, zF, zG⟩ := hrel
       by_cases hjk : j < m'.length
       ·
        have hjI : (j : Int) < (m'.length : Int) := by omega
        obtain ⟨b', off', rfl, hb', hrange'⟩ := elem_of hel hjk
        obtain ⟨d, hd⟩ : ∃ d, m'[j] = d := ⟨_, rfl⟩
        rw [hd] at hrange'
        obtain ⟨o', ho'⟩ : ∃ o', off' + j * 9 = o' := ⟨_, rfl⟩
        rw [ho'] at hrange'
        have hbq : blk wr b' = blk V b' := blk_below bq hb'
        obtain ⟨hcv, hci, _⟩ := bind_at (hrange' wr hbq)
        have hmac := fun W hW => (bind_at (hrange' W hW)).2.2
        clear hrange'
        have zq := bq.size
        have rXq := (row_below bq zXV).trans rX
        obtain ⟨gl, hgl⟩ : ∃ l, ansR x.src x.ty ans (findH x.v ipq (m'.take j)) = l := ⟨_, rfl⟩
        have hgl14 : gl.length = 14 := by rw [← hgl]; exact ansR_length _ _ _ _
        obtain ⟨wt, hwt⟩ : ∃ l, (findH x.v ipq (m'.take j)).isSome = l := ⟨_, rfl⟩
        rw [hgl] at rG
        rw [hwt]
        have HGL := Lib.hid hgl
        have HWT := Lib.hid hwt
        have HD := Lib.hid hd
        clear hgl hwt hd
        by_cases hmt : d.is x.v ipq = true
        ·
         obtain ⟨q1, q2⟩ := is_eq hmt
         have e1 : (d.v == x.v) = true := by rw [q1]; simp
         have e2 : (d.ip == ipq) = true := by rw [q2]; simp
         have hfh : findH x.v ipq (m'.take j) = none ∧ findH x.v ipq (m'.take (j + 1)) = some d := by
          rw [← HD.out]
          exact find_hit HG.out.1 hjk (by rw [HD.out]; exact hmt)
         have hglz : gl = zeros 12 (Value.int .u8 0) ++ [Value.int .i64 0, Value.string ⟨#[]⟩] := by rw [← HGL.out, hfh.1]; rfl
         subst hglz
         have HFH := Lib.hid hfh
         have KR := Lib.hid (hansr d.mac)
         unfold RAnsC frameV at KR
         clear hfh hmt q1 q2
         go_wp2_with fail
         go_quiet (fail)
         go_wp2_with fail
         obtain ⟨U, hU⟩ : ∃ v, wr.drewN nq = v := ⟨_, rfl⟩
         have rXU : row U X = (Value.int .u8 x.d :: (Value.int .i64 x.v :: (u8v x.dst ++ (u8v x.src ++ [Value.int .i64 x.ty, Value.string ⟨x.body.toArray⟩])))).toArray := by rw [← hU]; exact rXq
         have rGU : row U G = (zeros 12 (Value.int .u8 0) ++ [Value.int .i64 0, Value.string ⟨#[]⟩]).toArray := by rw [← hU]; exact rG
         have rFU : row U F = (u8v x.src ++ (u8v c.mac ++ [Value.int .i64 x.ty, Value.string ⟨(ans c.mac).toArray⟩])).toArray := by rw [← hU]; exact rF
         have bU : Below V.heap.size V U := by rw [← hU]; exact below_drewN bq _
         have zU : U.heap.size = wr.heap.size := by rw [← hU]; rfl
         have hbU : blk U b' = blk V b' := blk_below bU hb'
         have zXU : X < U.heap.size := by omega
         have zbU : b' < U.heap.size := by omega
         rw [hU]
         clear hU rXq rG rF bq hbq hcv hci
         have hG := grow_blk b' (blk V b')
         refine wp_region_beginX [(X, (Value.int .u8 x.d :: (Value.int .i64 x.v :: (u8v x.dst ++ (u8v x.src ++ [Value.int .i64 x.ty, Value.string ⟨x.body.toArray⟩])))).toArray)] (fun w' => blk w' b' = blk V b' ∧ b' < w'.heap.size) hG rfl (by simp only [Rws]; (repeat (first | exact trivial | refine ⟨(by first | assumption | (simp [go_sem, *]; done)), (by first | omega | (simp; done) | (simp; omega)), ?_⟩))) (⟨hbU, zbU⟩) (fun hS => ?_)
         refine sp 0 hG hS ?_
         refine sp 1 hG hS ?_
         refine sp 2 hG hS ?_
         refine sp 3 hG hS ?_
         refine sp 4 hG hS ?_
         refine sp 5 hG hS ?_
         refine sp 6 hG hS ?_
         refine sc 7 (v := ?_) hG hS ?_ ?_
         rotate_left
         ·
          intro w' hS'
          obtain ⟨hS', hX'⟩ := hS'
          simp only [Rws] at hS'
          go_simp
          with_reducible refine (KR.out _).mono ?_
          rintro e w'' ⟨rfl, hb⟩
          exact ⟨_, rfl, by rfl, hb⟩
         refine wpAnyR_one (i := 8) (by simp only [List.getElem?_toArray, List.getElem?_cons_succ, List.getElem?_cons_zero]; rfl) rfl (by kernel_rfl) (fun y1 by1 => ?_)
         replace by1 : Below U.heap.size U y1 := below_step (Below.drew (Below.refl _ _)) by1
         have zy1 := by1.size
         have rG1 := (row_below by1 (by omega)).trans rGU
         have rF1 := (row_below by1 (by omega)).trans rFU
         have rX1 := (row_below by1 zXU).trans rXU
         obtain ⟨y2, hy2⟩ : ∃ v, y1.setRow G (u8v x.src ++ (u8v d.mac ++ [Value.int .i64 x.ty, Value.string ⟨(ans d.mac).toArray⟩])).toArray = v := ⟨_, rfl⟩
         have rG2 : row y2 G = (u8v x.src ++ (u8v d.mac ++ [Value.int .i64 x.ty, Value.string ⟨(ans d.mac).toArray⟩])).toArray := by rw [← hy2]; exact row_setRow_same (by rw [rG1]; simp) (by rw [rG1]; simp)
         have rF2 : row y2 F = (u8v x.src ++ (u8v c.mac ++ [Value.int .i64 x.ty, Value.string ⟨(ans c.mac).toArray⟩])).toArray := by rw [← hy2, row_setRow_other _ _ _ (by omega)]; exact rF1
         have rX2 : row y2 X = (Value.int .u8 x.d :: (Value.int .i64 x.v :: (u8v x.dst ++ (u8v x.src ++ [Value.int .i64 x.ty, Value.string ⟨x.body.toArray⟩])))).toArray := by rw [← hy2, row_setRow_other _ _ _ (by omega)]; exact rX1
         have zy2 : y2.heap.size = y1.heap.size := by rw [← hy2, setRow_size]
         have by2 : Below V.heap.size V y2 := by rw [← hy2]; exact Below.setRow (bU.trans (by1.mono (by omega))) gG _
         refine st_one (W := y2) ?_ ⟨?_, ?_⟩ (fun v => ?_)
         ·
          rw [← hy2]
          go_simp
          try rfl
         ·
          simp only [Rws]
          exact ⟨rX2, by omega, trivial⟩
         ·
          exact ⟨blk_below by2 hb', by omega⟩
         ·
          (try simp only [Act.put])
          refine wpAnyR_done (by kernel_rfl) (fun y3 by3 => ?_) _
          have zy3 := by3.size
          have rG3 := (row_below by3 (by omega)).trans rG2
          have rF3 := (row_below by3 (by omega)).trans rF2
          have bb3 := by2.trans (by3.mono (by omega))
          clear hS hy2 rG2 rF2 rX2 rG1 rF1 rX1 rGU rFU rXU by1 by2 by3 hG
          go_wp2_with fail
          go_roundw
          case rel => exact ⟨j + 1, by omega, by simp, by rw [HFH.out.2]; rfl, rF3, by rw [HFH.out.2]; exact rG3, bb3, by omega, by omega⟩
          case measure => simp [intOf]; omega
        ·
         have hfh : findH x.v ipq (m'.take (j + 1)) = findH x.v ipq (m'.take j) := find_miss hjk (by rw [HD.out]; exact Bool.eq_false_iff.2 hmt)
         have HFH := Lib.hid hfh
         have hcase : (d.v == x.v) = false ∨ (d.v == x.v) = true ∧ (d.ip == ipq) = false := by
          have h0 := Bool.eq_false_iff.2 hmt
          unfold HB.is at h0
          rw [Bool.beq_comm (a := x.v), Bool.beq_comm (a := ipq)] at h0
          cases h1 : (d.v == x.v) with
          | false => exact .inl rfl
          | true => rw [h1, Bool.true_and] at h0; exact .inr ⟨rfl, h0⟩
         clear hfh hmt
         rcases hcase with e1 | ⟨e1, e2⟩
         all_goals
          go_wp2_with fail
          go_quiet (fail)
          go_wp2_with fail
          go_roundw
          case rel => exact ⟨j + 1, by omega, by simp, by rw [HFH.out, HWT.out], rF, by rw [HFH.out, HGL.out]; exact rG, below_drewN bq _, zF, zG⟩
          case measure => simp [intOf]; omega
       ·
        obtain rfl : j = m'.length := by omega
        rw [List.take_of_length_le (Nat.le_refl _), HF.out] at rG
        rw [List.take_of_length_le (Nat.le_refl _), HF.out]
        replace rG : row wr G = (u8v x.src ++ (u8v c.mac ++ [Value.int .i64 x.ty, Value.string ⟨(ans c.mac).toArray⟩])).toArray := rG
        have hjI : ¬ (m'.length : Int) < (m'.length : Int) := by omega
        have zq := bq.size
        have hTq := hT.below bq hT.lt hT.ok.lt
        go_wp2_with fail
        (with_reducible refine (hCount_any _ hTq).mono ?_)
        rintro e u ⟨rfl, cu⟩
        go_wp2_with fail
        go_roundw
        case rel => exact ⟨k + 1, m', a2, cap2, by omega, by simp, rfl, hTq.below cu hTq.lt hTq.ok.lt, (hel.below bq).below cu, HG.out, (BV.trans (bq.mono BV.size)).trans (cu.mono (by have := BV.size; omega))⟩
        case measure => simp [intOf]; omega
   ·
    clear hact
    try clear hW1
    (with_reducible refine (HLR.out _ hel1).mono ?_)
    rintro e W2 ⟨v', rfl, ⟨a2, cap2, rfl, hel2⟩, c2⟩
    have hT2 := hT1.below c2 hT1.lt hT1.ok.lt
    have rX2 := (row_below c2 zX).trans rX
    have zW2 := c2.size
    have zX2 : X < W2.heap.size := by omega
    have B2 : Below w.heap.size w W2 := BW1.trans (c2.mono BW1.size)
    clear c2 hT1 hel1 rX BW1
    rw [List.length_map]
    obtain ⟨bo, hbo⟩ : ∃ l, (ok && (hadH x.v ip m || decide (m.length < 1024))) = l := ⟨_, rfl⟩
    rw [hbo]
    have HBO := Lib.hid hbo
    clear hbo
    go_wp2_with fail
    (with_reducible refine (HLP.out _ hT2).mono ?_)
    rintro e V ⟨rfl, c3, hT⟩
    rw [HBO.out]
    have hel := hel2.but c3 hT2.ok (fun y hy => by obtain ⟨c, _, rfl⟩ := List.mem_map.1 hy; simp [bindC])
    have rX := (row_of_block (c3.block X zX2 hXM)).trans rX2
    have zV := c3.size
    have zXV : X < V.heap.size := by omega
    have BV : Below w.heap.size w V := B2.trans ((c3.mono B2.size).below hMw)
    clear c3 hT2 hel2 rX2 B2 zW2 zX zX2
    have hgood : DistH (learnH x.v ip mac ok m) ∧ (∀ c ∈ learnH x.v ip mac ok m, 0 ≤ c.age ∧ c.age ≤ 1000000) ∧ (learnH x.v ip mac ok m).length ≤ 1024 := ⟨dist_learn HG.out.1, age_learn HG.out.2.1, len_learn HG.out.2.2⟩
    have HG := Lib.hid hgood
    clear hgood
    obtain ⟨m', hm'⟩ : ∃ l, learnH x.v ip mac ok m = l := ⟨_, rfl⟩
    rw [hm'] at hel hT HG
    rw [hm']
    clear hm' hmI
    have hmI : (m'.length : Int) ≤ 1024 := by have := HG.out.2.2; omega
    rcases HAB.out with ⟨hno, ipq, hask⟩ | ⟨ipq, ans, hs, hask, hansr⟩
    ·
     clear HAB
     have KA := Lib.hid (fun (W : World) (_ : HushT W A M time m') => hno W ⟨A, 0, none⟩ x.v)
     clear hno
     unfold AnsC at KA
     try unfold zeroFr at KA
     unfold RAskC at hask
     unfold frameV at KA hask
     have KQ := Lib.hid hask
     clear hask
     go_wp2_with fail
     (with_reducible refine (KA.out _ hT).mono ?_)
     rintro e Y1 ⟨rfl, c1⟩
     have zY1 := c1.size
     obtain ⟨F, hF⟩ : ∃ v, Y1.heap.size = v := ⟨_, rfl⟩
     obtain ⟨Ya, hYa⟩ : ∃ v, Y1.alloc (.cells (zeros 12 (Value.int .u8 0) ++ [Value.int .i64 0, Value.string ⟨#[]⟩]).toArray 32) = v := ⟨_, rfl⟩
     have rYa : row Ya F = (zeros 12 (Value.int .u8 0) ++ [Value.int .i64 0, Value.string ⟨#[]⟩]).toArray := by rw [← hF, ← hYa]; exact row_alloc_at _ _ _ rfl
     have zYa : Ya.heap.size = F + 1 := by rw [← hF, ← hYa]; exact alloc_sizeW _ _
     have cYa : Below V.heap.size V Ya := by rw [← hYa]; exact Below.alloc c1 (by omega) _
     obtain ⟨Y2, hY2⟩ : ∃ v, Ya.setRow F (zeros 12 (Value.int .u8 0) ++ [Value.int .i64 0, Value.string ⟨#[]⟩]).toArray = v := ⟨_, rfl⟩
     have rF : row Y2 F = (zeros 12 (Value.int .u8 0) ++ [Value.int .i64 0, Value.string ⟨#[]⟩]).toArray := by rw [← hY2]; exact row_setRow_same (by rw [rYa]; simp) (by rw [rYa])
     have zY2 : Y2.heap.size = F + 1 := by rw [← hY2, setRow_size, zYa]
     have c2 : Below V.heap.size V Y2 := by rw [← hY2]; exact Below.setRow cYa (by omega) _
     have rX2 := (row_below c2 zXV).trans rX
     have zX2 : X < Y2.heap.size := by omega
     rw [hF] at zY1
     go_wp2_with fail
     clear hY2 c1
     try clear hYa rYa zYa cYa
     (with_reducible refine (KQ.out _).mono ?_)
     rintro e Y3 ⟨rfl, c3⟩
     have zY3 := c3.size
     obtain ⟨Y4, hY4⟩ : ∃ v, Y3.alloc (.cells (zeros 12 (Value.int .u8 0) ++ [Value.int .i64 0, Value.string ⟨#[]⟩]).toArray 32) = v := ⟨_, rfl⟩
     obtain ⟨G, hGd⟩ : ∃ v, Y3.heap.size = v := ⟨_, rfl⟩
     have rG : row Y4 G = (zeros 12 (Value.int .u8 0) ++ [Value.int .i64 0, Value.string ⟨#[]⟩]).toArray := by rw [← hGd, ← hY4]; exact row_alloc_at _ _ _ rfl
     have zY4 : Y4.heap.size = G + 1 := by rw [← hGd, ← hY4]; exact alloc_sizeW _ _
     have c34 : Below Y2.heap.size Y2 Y4 := by rw [← hY4]; exact Below.alloc c3 (by omega) _
     have c4 : Below V.heap.size V Y4 := c2.trans (c34.mono c2.size)
     have rF4 := (row_below c34 (by omega)).trans rF
     have gF : V.heap.size ≤ F := zY1
     have gG : V.heap.size ≤ G := by have := c2.size; omega
     have gFG : F < G := by omega
     go_wp2_with fail
     try clear rYa zYa cYa hYa
     clear hY4 c3 c2 rF rX2 zX2 c34 hF hGd
     go_loopw [16, 18] (fun wt i wq => ∃ j : Nat, j ≤ m'.length ∧ i = .int .i64 j ∧ wt = .bool false ∧ row wq F = (zeros 12 (Value.int .u8 0) ++ [Value.int .i64 0, Value.string ⟨#[]⟩]).toArray ∧ row wq G = (zeros 12 (Value.int .u8 0) ++ [Value.int .i64 0, Value.string ⟨#[]⟩]).toArray ∧ Below V.heap.size V wq ∧ F < wq.heap.size ∧ G < wq.heap.size) (fun _ i _ => m'.length - (intOf i).toNat)
     case atStart => exact ⟨0, by omega, rfl, rfl, rF4, rG, c4, by omega, by omega⟩
     case round =>
      clear rF4 rG c4 zY4 zY3 zY2
      obtain ⟨j, hj, rfl, rfl, rF, rG, bq, zF, zG⟩ := hrel
      by_cases hjk : j < m'.length
      ·
       have hjI : (j : Int) < (m'.length : Int) := by omega
       go_wp2_with fail
       go_quiet (fail)
       go_wp2_with fail
       go_roundw
       case rel => exact ⟨j + 1, by omega, by simp, rfl, rF, rG, below_drewN bq _, zF, zG⟩
       case measure => simp [intOf]; omega
      ·
       obtain rfl : j = m'.length := by omega
       have hjI : ¬ (m'.length : Int) < (m'.length : Int) := by omega
       have zq := bq.size
       have hTq := hT.below bq hT.lt hT.ok.lt
       go_wp2_with fail
       (with_reducible refine (hCount_any _ hTq).mono ?_)
       rintro e u ⟨rfl, cu⟩
       go_wp2_with fail
       go_roundw
       case rel => exact ⟨k + 1, m', a2, cap2, by omega, by simp, rfl, hTq.below cu hTq.lt hTq.ok.lt, (hel.below bq).below cu, HG.out, (BV.trans (bq.mono BV.size)).trans (cu.mono (by have := BV.size; omega))⟩
       case measure => simp [intOf]; omega
    ·
     clear HAB
     cases hf : findH x.v ipq m' with
     | none =>
      have hka : ∀ W, HushT W A M time m' → AnsC (some ⟨A, 0, none⟩) x.v x.dst x.src x.ty x.body W zeroFr false := fun W hW => hs.none x.v hW (by unfold foundH; rw [hf]; rfl)
      have HF := Lib.hid hf
      clear hf hs
      have KA := Lib.hid hka
      clear hka
      unfold AnsC at KA
      try unfold zeroFr at KA
      unfold RAskC at hask
      unfold frameV at KA hask
      have KQ := Lib.hid hask
      clear hask
      go_wp2_with fail
      (with_reducible refine (KA.out _ hT).mono ?_)
      rintro e Y1 ⟨rfl, c1⟩
      have zY1 := c1.size
      obtain ⟨F, hF⟩ : ∃ v, Y1.heap.size = v := ⟨_, rfl⟩
      obtain ⟨Ya, hYa⟩ : ∃ v, Y1.alloc (.cells (zeros 12 (Value.int .u8 0) ++ [Value.int .i64 0, Value.string ⟨#[]⟩]).toArray 32) = v := ⟨_, rfl⟩
      have rYa : row Ya F = (zeros 12 (Value.int .u8 0) ++ [Value.int .i64 0, Value.string ⟨#[]⟩]).toArray := by rw [← hF, ← hYa]; exact row_alloc_at _ _ _ rfl
      have zYa : Ya.heap.size = F + 1 := by rw [← hF, ← hYa]; exact alloc_sizeW _ _
      have cYa : Below V.heap.size V Ya := by rw [← hYa]; exact Below.alloc c1 (by omega) _
      obtain ⟨Y2, hY2⟩ : ∃ v, Ya.setRow F (zeros 12 (Value.int .u8 0) ++ [Value.int .i64 0, Value.string ⟨#[]⟩]).toArray = v := ⟨_, rfl⟩
      have rF : row Y2 F = (zeros 12 (Value.int .u8 0) ++ [Value.int .i64 0, Value.string ⟨#[]⟩]).toArray := by rw [← hY2]; exact row_setRow_same (by rw [rYa]; simp) (by rw [rYa])
      have zY2 : Y2.heap.size = F + 1 := by rw [← hY2, setRow_size, zYa]
      have c2 : Below V.heap.size V Y2 := by rw [← hY2]; exact Below.setRow cYa (by omega) _
      have rX2 := (row_below c2 zXV).trans rX
      have zX2 : X < Y2.heap.size := by omega
      rw [hF] at zY1
      go_wp2_with fail
      clear hY2 c1
      try clear hYa rYa zYa cYa
      (with_reducible refine (KQ.out _).mono ?_)
      rintro e Y3 ⟨rfl, c3⟩
      have zY3 := c3.size
      obtain ⟨Y4, hY4⟩ : ∃ v, Y3.alloc (.cells (zeros 12 (Value.int .u8 0) ++ [Value.int .i64 0, Value.string ⟨#[]⟩]).toArray 32) = v := ⟨_, rfl⟩
      obtain ⟨G, hGd⟩ : ∃ v, Y3.heap.size = v := ⟨_, rfl⟩
      have rG : row Y4 G = (zeros 12 (Value.int .u8 0) ++ [Value.int .i64 0, Value.string ⟨#[]⟩]).toArray := by rw [← hGd, ← hY4]; exact row_alloc_at _ _ _ rfl
      have zY4 : Y4.heap.size = G + 1 := by rw [← hGd, ← hY4]; exact alloc_sizeW _ _
      have c34 : Below Y2.heap.size Y2 Y4 := by rw [← hY4]; exact Below.alloc c3 (by omega) _
      have c4 : Below V.heap.size V Y4 := c2.trans (c34.mono c2.size)
      have rF4 := (row_below c34 (by omega)).trans rF
      have gF : V.heap.size ≤ F := zY1
      have gG : V.heap.size ≤ G := by have := c2.size; omega
      have gFG : F < G := by omega
      go_wp2_with fail
      try clear rYa zYa cYa hYa
      clear hY4 c3 c2 rF rX2 zX2 c34 hF hGd
      go_loopw [16, 18] (fun wt i wq => ∃ j : Nat, j ≤ m'.length ∧ i = .int .i64 j ∧ wt = .bool (findH x.v ipq (m'.take j)).isSome ∧ row wq F = (zeros 12 (Value.int .u8 0) ++ [Value.int .i64 0, Value.string ⟨#[]⟩]).toArray ∧ row wq G = (ansR x.src x.ty ans (findH x.v ipq (m'.take j))).toArray ∧ Below V.heap.size V wq ∧ F < wq.heap.size ∧ G < wq.heap.size) (fun _ i _ => m'.length - (intOf i).toNat)
      case atStart => exact ⟨0, by omega, rfl, by rw [List.take_zero, findH]; rfl, rF4, by rw [List.take_zero, findH]; exact rG, c4, by omega, by omega⟩
      case round =>
       clear rF4 rG c4 zY4 zY3 zY2
       obtain ⟨j, hj, rfl, rfl, rF, rG, bq, zF, zG⟩ := hrel
       by_cases hjk : j < m'.length
       ·
        have hjI : (j : Int) < (m'.length : Int) := by omega
        obtain ⟨b', off', rfl, hb', hrange'⟩ := elem_of hel hjk
        obtain ⟨d, hd⟩ : ∃ d, m'[j] = d := ⟨_, rfl⟩
        rw [hd] at hrange'
        obtain ⟨o', ho'⟩ : ∃ o', off' + j * 9 = o' := ⟨_, rfl⟩
        rw [ho'] at hrange'
        have hbq : blk wr b' = blk V b' := blk_below bq hb'
        obtain ⟨hcv, hci, _⟩ := bind_at (hrange' wr hbq)
        have hmac := fun W hW => (bind_at (hrange' W hW)).2.2
        clear hrange'
        have zq := bq.size
        have rXq := (row_below bq zXV).trans rX
        obtain ⟨gl, hgl⟩ : ∃ l, ansR x.src x.ty ans (findH x.v ipq (m'.take j)) = l := ⟨_, rfl⟩
        have hgl14 : gl.length = 14 := by rw [← hgl]; exact ansR_length _ _ _ _
        obtain ⟨wt, hwt⟩ : ∃ l, (findH x.v ipq (m'.take j)).isSome = l := ⟨_, rfl⟩
        rw [hgl] at rG
        rw [hwt]
        have HGL := Lib.hid hgl
        have HWT := Lib.hid hwt
        have HD := Lib.hid hd
        clear hgl hwt hd
        by_cases hmt : d.is x.v ipq = true
        ·
         obtain ⟨q1, q2⟩ := is_eq hmt
         have e1 : (d.v == x.v) = true := by rw [q1]; simp
         have e2 : (d.ip == ipq) = true := by rw [q2]; simp
         have hfh : findH x.v ipq (m'.take j) = none ∧ findH x.v ipq (m'.take (j + 1)) = some d := by
          rw [← HD.out]
          exact find_hit HG.out.1 hjk (by rw [HD.out]; exact hmt)
         have hglz : gl = zeros 12 (Value.int .u8 0) ++ [Value.int .i64 0, Value.string ⟨#[]⟩] := by rw [← HGL.out, hfh.1]; rfl
         subst hglz
         have HFH := Lib.hid hfh
         have KR := Lib.hid (hansr d.mac)
         unfold RAnsC frameV at KR
         clear hfh hmt q1 q2
         go_wp2_with fail
         go_quiet (fail)
         go_wp2_with fail
         obtain ⟨U, hU⟩ : ∃ v, wr.drewN nq = v := ⟨_, rfl⟩
         have rXU : row U X = (Value.int .u8 x.d :: (Value.int .i64 x.v :: (u8v x.dst ++ (u8v x.src ++ [Value.int .i64 x.ty, Value.string ⟨x.body.toArray⟩])))).toArray := by rw [← hU]; exact rXq
         have rGU : row U G = (zeros 12 (Value.int .u8 0) ++ [Value.int .i64 0, Value.string ⟨#[]⟩]).toArray := by rw [← hU]; exact rG
         have rFU : row U F = (zeros 12 (Value.int .u8 0) ++ [Value.int .i64 0, Value.string ⟨#[]⟩]).toArray := by rw [← hU]; exact rF
         have bU : Below V.heap.size V U := by rw [← hU]; exact below_drewN bq _
         have zU : U.heap.size = wr.heap.size := by rw [← hU]; rfl
         have hbU : blk U b' = blk V b' := blk_below bU hb'
         have zXU : X < U.heap.size := by omega
         have zbU : b' < U.heap.size := by omega
         rw [hU]
         clear hU rXq rG rF bq hbq hcv hci
         have hG := grow_blk b' (blk V b')
         refine wp_region_beginX [(X, (Value.int .u8 x.d :: (Value.int .i64 x.v :: (u8v x.dst ++ (u8v x.src ++ [Value.int .i64 x.ty, Value.string ⟨x.body.toArray⟩])))).toArray)] (fun w' => blk w' b' = blk V b' ∧ b' < w'.heap.size) hG rfl (by simp only [Rws]; (repeat (first | exact trivial | refine ⟨(by first | assumption | (simp [go_sem, *]; done)), (by first | omega | (simp; done) | (simp; omega)), ?_⟩))) (⟨hbU, zbU⟩) (fun hS => ?_)
         refine sp 0 hG hS ?_
         refine sp 1 hG hS ?_
         refine sp 2 hG hS ?_
         refine sp 3 hG hS ?_
         refine sp 4 hG hS ?_
         refine sp 5 hG hS ?_
         refine sp 6 hG hS ?_
         refine sc 7 (v := ?_) hG hS ?_ ?_
         rotate_left
         ·
          intro w' hS'
          obtain ⟨hS', hX'⟩ := hS'
          simp only [Rws] at hS'
          go_simp
          with_reducible refine (KR.out _).mono ?_
          rintro e w'' ⟨rfl, hb⟩
          exact ⟨_, rfl, by rfl, hb⟩
         refine wpAnyR_one (i := 8) (by simp only [List.getElem?_toArray, List.getElem?_cons_succ, List.getElem?_cons_zero]; rfl) rfl (by kernel_rfl) (fun y1 by1 => ?_)
         replace by1 : Below U.heap.size U y1 := below_step (Below.drew (Below.refl _ _)) by1
         have zy1 := by1.size
         have rG1 := (row_below by1 (by omega)).trans rGU
         have rF1 := (row_below by1 (by omega)).trans rFU
         have rX1 := (row_below by1 zXU).trans rXU
         obtain ⟨y2, hy2⟩ : ∃ v, y1.setRow G (u8v x.src ++ (u8v d.mac ++ [Value.int .i64 x.ty, Value.string ⟨(ans d.mac).toArray⟩])).toArray = v := ⟨_, rfl⟩
         have rG2 : row y2 G = (u8v x.src ++ (u8v d.mac ++ [Value.int .i64 x.ty, Value.string ⟨(ans d.mac).toArray⟩])).toArray := by rw [← hy2]; exact row_setRow_same (by rw [rG1]; simp) (by rw [rG1]; simp)
         have rF2 : row y2 F = (zeros 12 (Value.int .u8 0) ++ [Value.int .i64 0, Value.string ⟨#[]⟩]).toArray := by rw [← hy2, row_setRow_other _ _ _ (by omega)]; exact rF1
         have rX2 : row y2 X = (Value.int .u8 x.d :: (Value.int .i64 x.v :: (u8v x.dst ++ (u8v x.src ++ [Value.int .i64 x.ty, Value.string ⟨x.body.toArray⟩])))).toArray := by rw [← hy2, row_setRow_other _ _ _ (by omega)]; exact rX1
         have zy2 : y2.heap.size = y1.heap.size := by rw [← hy2, setRow_size]
         have by2 : Below V.heap.size V y2 := by rw [← hy2]; exact Below.setRow (bU.trans (by1.mono (by omega))) gG _
         refine st_one (W := y2) ?_ ⟨?_, ?_⟩ (fun v => ?_)
         ·
          rw [← hy2]
          go_simp
          try rfl
         ·
          simp only [Rws]
          exact ⟨rX2, by omega, trivial⟩
         ·
          exact ⟨blk_below by2 hb', by omega⟩
         ·
          (try simp only [Act.put])
          refine wpAnyR_done (by kernel_rfl) (fun y3 by3 => ?_) _
          have zy3 := by3.size
          have rG3 := (row_below by3 (by omega)).trans rG2
          have rF3 := (row_below by3 (by omega)).trans rF2
          have bb3 := by2.trans (by3.mono (by omega))
          clear hS hy2 rG2 rF2 rX2 rG1 rF1 rX1 rGU rFU rXU by1 by2 by3 hG
          go_wp2_with fail
          go_roundw
          case rel => exact ⟨j + 1, by omega, by simp, by rw [HFH.out.2]; rfl, rF3, by rw [HFH.out.2]; exact rG3, bb3, by omega, by omega⟩
          case measure => simp [intOf]; omega
        ·
         have hfh : findH x.v ipq (m'.take (j + 1)) = findH x.v ipq (m'.take j) := find_miss hjk (by rw [HD.out]; exact Bool.eq_false_iff.2 hmt)
         have HFH := Lib.hid hfh
         have hcase : (d.v == x.v) = false ∨ (d.v == x.v) = true ∧ (d.ip == ipq) = false := by
          have h0 := Bool.eq_false_iff.2 hmt
          unfold HB.is at h0
          rw [Bool.beq_comm (a := x.v), Bool.beq_comm (a := ipq)] at h0
          cases h1 : (d.v == x.v) with
          | false => exact .inl rfl
          | true => rw [h1, Bool.true_and] at h0; exact .inr ⟨rfl, h0⟩
         clear hfh hmt
         rcases hcase with e1 | ⟨e1, e2⟩
         all_goals
          go_wp2_with fail
          go_quiet (fail)
          go_wp2_with fail
          go_roundw
          case rel => exact ⟨j + 1, by omega, by simp, by rw [HFH.out, HWT.out], rF, by rw [HFH.out, HGL.out]; exact rG, below_drewN bq _, zF, zG⟩
          case measure => simp [intOf]; omega
       ·
        obtain rfl : j = m'.length := by omega
        rw [List.take_of_length_le (Nat.le_refl _), HF.out] at rG
        rw [List.take_of_length_le (Nat.le_refl _), HF.out]
        replace rG : row wr G = (zeros 12 (Value.int .u8 0) ++ [Value.int .i64 0, Value.string ⟨#[]⟩]).toArray := rG
        have hjI : ¬ (m'.length : Int) < (m'.length : Int) := by omega
        have zq := bq.size
        have hTq := hT.below bq hT.lt hT.ok.lt
        go_wp2_with fail
        (with_reducible refine (hCount_any _ hTq).mono ?_)
        rintro e u ⟨rfl, cu⟩
        go_wp2_with fail
        go_roundw
        case rel => exact ⟨k + 1, m', a2, cap2, by omega, by simp, rfl, hTq.below cu hTq.lt hTq.ok.lt, (hel.below bq).below cu, HG.out, (BV.trans (bq.mono BV.size)).trans (cu.mono (by have := BV.size; omega))⟩
        case measure => simp [intOf]; omega
     | some c =>
      have hka : ∀ W, HushT W A M time m' → AnsC (some ⟨A, 0, none⟩) x.v x.dst x.src x.ty x.body W (frameV x.src c.mac x.ty (ans c.mac)) true := fun W hW => hs.some x.v c.mac hW (by unfold foundH; rw [hf])
      have HF := Lib.hid hf
      clear hf hs
      have KA := Lib.hid hka
      clear hka
      unfold AnsC at KA
      try unfold zeroFr at KA
      unfold RAskC at hask
      unfold frameV at KA hask
      have KQ := Lib.hid hask
      clear hask
      go_wp2_with fail
      (with_reducible refine (KA.out _ hT).mono ?_)
      rintro e Y1 ⟨rfl, c1⟩
      have zY1 := c1.size
      obtain ⟨Y2, hY2⟩ : ∃ v, Y1.alloc (.cells (u8v x.src ++ (u8v c.mac ++ [Value.int .i64 x.ty, Value.string ⟨(ans c.mac).toArray⟩])).toArray 32) = v := ⟨_, rfl⟩
      obtain ⟨F, hF⟩ : ∃ v, Y1.heap.size = v := ⟨_, rfl⟩
      have rF : row Y2 F = (u8v x.src ++ (u8v c.mac ++ [Value.int .i64 x.ty, Value.string ⟨(ans c.mac).toArray⟩])).toArray := by rw [← hF, ← hY2]; exact row_alloc_at _ _ _ rfl
      have zY2 : Y2.heap.size = F + 1 := by rw [← hF, ← hY2]; exact alloc_sizeW _ _
      have c2 : Below V.heap.size V Y2 := by rw [← hY2]; exact Below.alloc c1 (by omega) _
      have rX2 := (row_below c2 zXV).trans rX
      have zX2 : X < Y2.heap.size := by omega
      rw [hF] at zY1
      go_wp2_with fail
      clear hY2 c1
      try clear hYa rYa zYa cYa
      (with_reducible refine (KQ.out _).mono ?_)
      rintro e Y3 ⟨rfl, c3⟩
      have zY3 := c3.size
      obtain ⟨Y4, hY4⟩ : ∃ v, Y3.alloc (.cells (zeros 12 (Value.int .u8 0) ++ [Value.int .i64 0, Value.string ⟨#[]⟩]).toArray 32) = v := ⟨_, rfl⟩
      obtain ⟨G, hGd⟩ : ∃ v, Y3.heap.size = v := ⟨_, rfl⟩
      have rG : row Y4 G = (zeros 12 (Value.int .u8 0) ++ [Value.int .i64 0, Value.string ⟨#[]⟩]).toArray := by rw [← hGd, ← hY4]; exact row_alloc_at _ _ _ rfl
      have zY4 : Y4.heap.size = G + 1 := by rw [← hGd, ← hY4]; exact alloc_sizeW _ _
      have c34 : Below Y2.heap.size Y2 Y4 := by rw [← hY4]; exact Below.alloc c3 (by omega) _
      have c4 : Below V.heap.size V Y4 := c2.trans (c34.mono c2.size)
      have rF4 := (row_below c34 (by omega)).trans rF
      have gF : V.heap.size ≤ F := zY1
      have gG : V.heap.size ≤ G := by have := c2.size; omega
      have gFG : F < G := by omega
      go_wp2_with fail
      try clear rYa zYa cYa hYa
      clear hY4 c3 c2 rF rX2 zX2 c34 hF hGd
      go_loopw [16, 18] (fun wt i wq => ∃ j : Nat, j ≤ m'.length ∧ i = .int .i64 j ∧ wt = .bool (findH x.v ipq (m'.take j)).isSome ∧ row wq F = (u8v x.src ++ (u8v c.mac ++ [Value.int .i64 x.ty, Value.string ⟨(ans c.mac).toArray⟩])).toArray ∧ row wq G = (ansR x.src x.ty ans (findH x.v ipq (m'.take j))).toArray ∧ Below V.heap.size V wq ∧ F < wq.heap.size ∧ G < wq.heap.size) (fun _ i _ => m'.length - (intOf i).toNat)
      case atStart => exact ⟨0, by omega, rfl, by rw [List.take_zero, findH]; rfl, rF4, by rw [List.take_zero, findH]; exact rG, c4, by omega, by omega⟩
      case round =>
       clear rF4 rG c4 zY4 zY3 zY2
       obtain ⟨j, hj, rfl, rfl, rF, rG, bq, zF, zG⟩ := hrel
       by_cases hjk : j < m'.length
       ·
        have hjI : (j : Int) < (m'.length : Int) := by omega
        obtain ⟨b', off', rfl, hb', hrange'⟩ := elem_of hel hjk
        obtain ⟨d, hd⟩ : ∃ d, m'[j] = d := ⟨_, rfl⟩
        rw [hd] at hrange'
        obtain ⟨o', ho'⟩ : ∃ o', off' + j * 9 = o' := ⟨_, rfl⟩
        rw [ho'] at hrange'
        have hbq : blk wr b' = blk V b' := blk_below bq hb'
        obtain ⟨hcv, hci, _⟩ := bind_at (hrange' wr hbq)
        have hmac := fun W hW => (bind_at (hrange' W hW)).2.2
        clear hrange'
        have zq := bq.size
        have rXq := (row_below bq zXV).trans rX
        obtain ⟨gl, hgl⟩ : ∃ l, ansR x.src x.ty ans (findH x.v ipq (m'.take j)) = l := ⟨_, rfl⟩
        have hgl14 : gl.length = 14 := by rw [← hgl]; exact ansR_length _ _ _ _
        obtain ⟨wt, hwt⟩ : ∃ l, (findH x.v ipq (m'.take j)).isSome = l := ⟨_, rfl⟩
        rw [hgl] at rG
        rw [hwt]
        have HGL := Lib.hid hgl
        have HWT := Lib.hid hwt
        have HD := Lib.hid hd
        clear hgl hwt hd
        by_cases hmt : d.is x.v ipq = true
        ·
         obtain ⟨q1, q2⟩ := is_eq hmt
         have e1 : (d.v == x.v) = true := by rw [q1]; simp
         have e2 : (d.ip == ipq) = true := by rw [q2]; simp
         have hfh : findH x.v ipq (m'.take j) = none ∧ findH x.v ipq (m'.take (j + 1)) = some d := by
          rw [← HD.out]
          exact find_hit HG.out.1 hjk (by rw [HD.out]; exact hmt)
         have hglz : gl = zeros 12 (Value.int .u8 0) ++ [Value.int .i64 0, Value.string ⟨#[]⟩] := by rw [← HGL.out, hfh.1]; rfl
         subst hglz
         have HFH := Lib.hid hfh
         have KR := Lib.hid (hansr d.mac)
         unfold RAnsC frameV at KR
         clear hfh hmt q1 q2
         go_wp2_with fail
         go_quiet (fail)
         go_wp2_with fail
         obtain ⟨U, hU⟩ : ∃ v, wr.drewN nq = v := ⟨_, rfl⟩
         have rXU : row U X = (Value.int .u8 x.d :: (Value.int .i64 x.v :: (u8v x.dst ++ (u8v x.src ++ [Value.int .i64 x.ty, Value.string ⟨x.body.toArray⟩])))).toArray := by rw [← hU]; exact rXq
         have rGU : row U G = (zeros 12 (Value.int .u8 0) ++ [Value.int .i64 0, Value.string ⟨#[]⟩]).toArray := by rw [← hU]; exact rG
         have rFU : row U F = (u8v x.src ++ (u8v c.mac ++ [Value.int .i64 x.ty, Value.string ⟨(ans c.mac).toArray⟩])).toArray := by rw [← hU]; exact rF
         have bU : Below V.heap.size V U := by rw [← hU]; exact below_drewN bq _
         have zU : U.heap.size = wr.heap.size := by rw [← hU]; rfl
         have hbU : blk U b' = blk V b' := blk_below bU hb'
         have zXU : X < U.heap.size := by omega
         have zbU : b' < U.heap.size := by omega
         rw [hU]
         clear hU rXq rG rF bq hbq hcv hci
         have hG := grow_blk b' (blk V b')
         refine wp_region_beginX [(X, (Value.int .u8 x.d :: (Value.int .i64 x.v :: (u8v x.dst ++ (u8v x.src ++ [Value.int .i64 x.ty, Value.string ⟨x.body.toArray⟩])))).toArray)] (fun w' => blk w' b' = blk V b' ∧ b' < w'.heap.size) hG rfl (by simp only [Rws]; (repeat (first | exact trivial | refine ⟨(by first | assumption | (simp [go_sem, *]; done)), (by first | omega | (simp; done) | (simp; omega)), ?_⟩))) (⟨hbU, zbU⟩) (fun hS => ?_)
         refine sp 0 hG hS ?_
         refine sp 1 hG hS ?_
         refine sp 2 hG hS ?_
         refine sp 3 hG hS ?_
         refine sp 4 hG hS ?_
         refine sp 5 hG hS ?_
         refine sp 6 hG hS ?_
         refine sc 7 (v := ?_) hG hS ?_ ?_
         rotate_left
         ·
          intro w' hS'
          obtain ⟨hS', hX'⟩ := hS'
          simp only [Rws] at hS'
          go_simp
          with_reducible refine (KR.out _).mono ?_
          rintro e w'' ⟨rfl, hb⟩
          exact ⟨_, rfl, by rfl, hb⟩
         refine wpAnyR_one (i := 8) (by simp only [List.getElem?_toArray, List.getElem?_cons_succ, List.getElem?_cons_zero]; rfl) rfl (by kernel_rfl) (fun y1 by1 => ?_)
         replace by1 : Below U.heap.size U y1 := below_step (Below.drew (Below.refl _ _)) by1
         have zy1 := by1.size
         have rG1 := (row_below by1 (by omega)).trans rGU
         have rF1 := (row_below by1 (by omega)).trans rFU
         have rX1 := (row_below by1 zXU).trans rXU
         obtain ⟨y2, hy2⟩ : ∃ v, y1.setRow G (u8v x.src ++ (u8v d.mac ++ [Value.int .i64 x.ty, Value.string ⟨(ans d.mac).toArray⟩])).toArray = v := ⟨_, rfl⟩
         have rG2 : row y2 G = (u8v x.src ++ (u8v d.mac ++ [Value.int .i64 x.ty, Value.string ⟨(ans d.mac).toArray⟩])).toArray := by rw [← hy2]; exact row_setRow_same (by rw [rG1]; simp) (by rw [rG1]; simp)
         have rF2 : row y2 F = (u8v x.src ++ (u8v c.mac ++ [Value.int .i64 x.ty, Value.string ⟨(ans c.mac).toArray⟩])).toArray := by rw [← hy2, row_setRow_other _ _ _ (by omega)]; exact rF1
         have rX2 : row y2 X = (Value.int .u8 x.d :: (Value.int .i64 x.v :: (u8v x.dst ++ (u8v x.src ++ [Value.int .i64 x.ty, Value.string ⟨x.body.toArray⟩])))).toArray := by rw [← hy2, row_setRow_other _ _ _ (by omega)]; exact rX1
         have zy2 : y2.heap.size = y1.heap.size := by rw [← hy2, setRow_size]
         have by2 : Below V.heap.size V y2 := by rw [← hy2]; exact Below.setRow (bU.trans (by1.mono (by omega))) gG _
         refine st_one (W := y2) ?_ ⟨?_, ?_⟩ (fun v => ?_)
         ·
          rw [← hy2]
          go_simp
          try rfl
         ·
          simp only [Rws]
          exact ⟨rX2, by omega, trivial⟩
         ·
          exact ⟨blk_below by2 hb', by omega⟩
         ·
          (try simp only [Act.put])
          refine wpAnyR_done (by kernel_rfl) (fun y3 by3 => ?_) _
          have zy3 := by3.size
          have rG3 := (row_below by3 (by omega)).trans rG2
          have rF3 := (row_below by3 (by omega)).trans rF2
          have bb3 := by2.trans (by3.mono (by omega))
          clear hS hy2 rG2 rF2 rX2 rG1 rF1 rX1 rGU rFU rXU by1 by2 by3 hG
          go_wp2_with fail
          go_roundw
          case rel => exact ⟨j + 1, by omega, by simp, by rw [HFH.out.2]; rfl, rF3, by rw [HFH.out.2]; exact rG3, bb3, by omega, by omega⟩
          case measure => simp [intOf]; omega
        ·
         have hfh : findH x.v ipq (m'.take (j + 1)) = findH x.v ipq (m'.take j) := find_miss hjk (by rw [HD.out]; exact Bool.eq_false_iff.2 hmt)
         have HFH := Lib.hid hfh
         have hcase : (d.v == x.v) = false ∨ (d.v == x.v) = true ∧ (d.ip == ipq) = false := by
          have h0 := Bool.eq_false_iff.2 hmt
          unfold HB.is at h0
          rw [Bool.beq_comm (a := x.v), Bool.beq_comm (a := ipq)] at h0
          cases h1 : (d.v == x.v) with
          | false => exact .inl rfl
          | true => rw [h1, Bool.true_and] at h0; exact .inr ⟨rfl, h0⟩
         clear hfh hmt
         rcases hcase with e1 | ⟨e1, e2⟩
         all_goals
          go_wp2_with fail
          go_quiet (fail)
          go_wp2_with fail
          go_roundw
          case rel => exact ⟨j + 1, by omega, by simp, by rw [HFH.out, HWT.out], rF, by rw [HFH.out, HGL.out]; exact rG, below_drewN bq _, zF, zG⟩
          case measure => simp [intOf]; omega
       ·
        obtain rfl : j = m'.length := by omega
        rw [List.take_of_length_le (Nat.le_refl _), HF.out] at rG
        rw [List.take_of_length_le (Nat.le_refl _), HF.out]
        replace rG : row wr G = (u8v x.src ++ (u8v c.mac ++ [Value.int .i64 x.ty, Value.string ⟨(ans c.mac).toArray⟩])).toArray := rG
        have hjI : ¬ (m'.length : Int) < (m'.length : Int) := by omega
        have zq := bq.size
        have hTq := hT.below bq hT.lt hT.ok.lt
        go_wp2_with fail
        (with_reducible refine (hCount_any _ hTq).mono ?_)
        rintro e u ⟨rfl, cu⟩
        go_wp2_with fail
        go_roundw
        case rel => exact ⟨k + 1, m', a2, cap2, by omega, by simp, rfl, hTq.below cu hTq.lt hTq.ok.lt, (hel.below bq).below cu, HG.out, (BV.trans (bq.mono BV.size)).trans (cu.mono (by have := BV.size; omega))⟩
        case measure => simp [intOf]; omega
  ·
   obtain rfl : k = acts.length := by omega
   have hkI : ¬ (acts.length : Int) < (acts.length : Int) := by omega
   go_wp2_with fail
   go_ret
   exact ⟨rfl, B1⟩
end
end Go.Proofs.Ytckckabedgpbiaa
