/- Texts of this proof, merged: HusO, HusP, HusU, Acts, HusV. -/
import Derived.Test.YtckckabedgpbiaaLstJ
import Derived.Test.YtckckabedgpbiaaJ46
import Derived.Test.YtckckabedgpbiaaJ23
import Derived.Test.YtckckabedgpbiaaJ29
import Derived.Test.YtckckabedgpbiaaJ12
set_option linter.unusedSimpArgs false
set_option linter.unusedVariables false
set_option maxRecDepth 4000
namespace Go.Proofs.Ytckckabedgpbiaa
section
open Go.RowKit
def bindC (b : HB) : List Value := .int .i64 b.v :: (.string ⟨b.ip.toArray⟩ :: (u8v b.mac ++ [.int .i64 b.age]))
@[simp] theorem bindC_length (b : HB) : (bindC b).length = 9 := by simp [bindC]
end
section
open Go.RowKit
def hadH (v : Int) (ip : List UInt8) (m : List HB) : Bool := m.any fun c => c.is v ip
def learnH (v : Int) (ip : List UInt8) (mac : Vector UInt8 6) (ok : Bool) (m : List HB) : List HB := if ok && (hadH v ip m || decide (m.length < 1024)) then putH ⟨v, ip, mac, 0⟩ m else m
theorem had_find (v : Int) (ip : List UInt8) : ∀ m : List HB, (hadH v ip m = true ↔ findH v ip m ≠ none)
 | [] => by simp [hadH, findH]
 | c :: m => by
  have ih := had_find v ip m
  rw [findH]
  by_cases h : c.is v ip = true
  ·
   rw [if_pos h]
   simp [hadH, h]
  ·
   rw [if_neg h, ← ih]
   simp [hadH, h]
end
section
open Go.RowKit
section
variable (dst src who : Vector UInt8 6) (body : List UInt8)
end
end
section
open Go.ChangeShapes Go.WideShapes Go.ChangeAt Go.RowKit
structure ActD where
 d : Int
 v : Int
 dst : Vector UInt8 6
 src : Vector UInt8 6
 ty : Int
 body : List UInt8
def actC (a : ActD) : List Value := .int .u8 a.d :: (.int .i64 a.v :: frameV a.dst a.src a.ty a.body)
@[simp] theorem actC_length (a : ActD) : (actC a).length = 16 := by simp [actC, frameV]
def ActsAt (w : World) (a : Option Addr) (acts : List ActD) : Prop :=
 acts.length ≤ maxLen ∧ ∀ (i : Nat) (x : ActD), acts[i]? = some x → ∃ b off, a = some ⟨b, off, none⟩ ∧ b < w.heap.size ∧ ∀ W, blk W b = blk w b → W.rangeAt b (off + i * 16) (actC x)
theorem ActsAt.below {w w' : World} {a : Option Addr} {acts : List ActD} (h : ActsAt w a acts) (hb : Below w.heap.size w w') : ActsAt w' a acts := by
 refine ⟨h.1, fun i x hx => ?_⟩
 obtain ⟨b, off, e, hl, hr⟩ := h.2 i x hx
 exact ⟨b, off, e, Nat.lt_of_lt_of_le hl hb.size, fun W hW => hr W (hW.trans (blk_below hb hl))⟩
structure ActRun (b o : Nat) (x : ActD) (W : World) : Prop where
 d : W.cell? ⟨b, o, none⟩ = some (.int .u8 x.d)
 v : W.cell? ⟨b, o + 1, none⟩ = some (.int .i64 x.v)
 f : (loadS 32 (.pointer (some ⟨b, o + 2, none⟩))).run Try.prog W = .ok (.agg (frameV x.dst x.src x.ty x.body).toArray) W
 s : (loadS 30 (.pointer (some ⟨b, o + 8, none⟩))).run Try.prog W = .ok (.agg (u8v x.src).toArray) W
 t : W.cell? ⟨b, o + 15, none⟩ = some (.string ⟨x.body.toArray⟩)
section
variable (a : ActD) (ip : List UInt8) (mac : Vector UInt8 6) (ok : Bool)
end
theorem mem_putH {c : HB} : ∀ {m : List HB} {b : HB}, b ∈ putH c m → b = c ∨ b ∈ m
 | [], b, h => .inl (by simpa [putH] using h)
 | d :: m, b, h => by
  unfold putH at h
  split at h
  ·
   rcases List.mem_cons.1 h with h | h
   ·
    exact .inl h
   ·
    exact .inr (List.mem_cons_of_mem _ h)
  ·
   rcases List.mem_cons.1 h with h | h
   ·
    exact .inr (by rw [h]; exact List.mem_cons_self)
   ·
    rcases mem_putH h with h | h
    ·
     exact .inl h
    ·
     exact .inr (List.mem_cons_of_mem _ h)
end
section
open Go.RowKit
theorem is_eq {c : HB} {v : Int} {ip : List UInt8} (h : c.is v ip = true) : v = c.v ∧ ip = c.ip := by
 unfold HB.is at h
 simpa [Bool.and_eq_true, beq_iff_eq] using h
theorem dist_put (c : HB) : ∀ {m : List HB}, DistH m → DistH (putH c m)
 | [], _ => by unfold putH DistH; simp
 | d :: m, h => by
  rw [DistH, List.pairwise_cons] at h
  rw [putH]
  by_cases hc : d.is c.v c.ip = true
  ·
   rw [if_pos hc, DistH, List.pairwise_cons]
   refine ⟨fun b hb => ?_, h.2⟩
   have h1 := h.1 b hb
   obtain ⟨e1, e2⟩ := is_eq hc
   unfold HB.is at h1 ⊢
   rw [e1, e2]
   exact h1
  ·
   rw [if_neg hc, DistH, List.pairwise_cons]
   refine ⟨fun b hb => ?_, dist_put c h.2⟩
   rcases mem_putH hb with rfl | hb
   ·
    exact Bool.eq_false_iff.2 hc
   ·
    exact h.1 b hb
theorem dist_learn {v : Int} {ip : List UInt8} {mac : Vector UInt8 6} {ok : Bool} {m : List HB} (h : DistH m) : DistH (learnH v ip mac ok m) := by
 unfold learnH
 split
 ·
  exact dist_put _ h
 ·
  exact h
theorem step_key {time : Int} {a x : HB} (h : stepH time a = some x) : x.v = a.v ∧ x.ip = a.ip ∧ x.age = a.age + 1 ∧ a.age + 1 < time := by
 unfold stepH at h
 split at h
 ·
  cases h
 ·
  cases h
  exact ⟨rfl, rfl, rfl, by omega⟩
theorem dist_tick (time : Int) {m : List HB} (h : DistH m) : DistH (tickH time m) := by
 unfold DistH tickH at *
 rw [List.pairwise_filterMap]
 refine h.imp fun {a b} hab x hx y hy => ?_
 obtain ⟨h1, h2, _⟩ := step_key hx
 obtain ⟨h3, h4, _⟩ := step_key hy
 unfold HB.is at *
 rw [h1, h2, h3, h4]
 exact hab
theorem age_tick {time : Int} {m : List HB} (ht : time ≤ 1000000) (h : ∀ c ∈ m, 0 ≤ c.age ∧ c.age ≤ 1000000) : ∀ c ∈ tickH time m, 0 ≤ c.age ∧ c.age ≤ 1000000 := by
 intro c hc
 unfold tickH at hc
 obtain ⟨b, hb, hbc⟩ := List.mem_filterMap.1 hc
 obtain ⟨_, _, e, hlt⟩ := step_key hbc
 have := h b hb
 omega
theorem age_learn {v : Int} {ip : List UInt8} {mac : Vector UInt8 6} {ok : Bool} {m : List HB} (h : ∀ c ∈ m, 0 ≤ c.age ∧ c.age ≤ 1000000) : ∀ c ∈ learnH v ip mac ok m, 0 ≤ c.age ∧ c.age ≤ 1000000 := by
 intro c hc
 unfold learnH at hc
 split at hc
 ·
  rcases mem_putH hc with rfl | hc
  ·
   exact ⟨by simp, by simp⟩
  ·
   exact h c hc
 ·
  exact h c hc
theorem put_length (c : HB) : ∀ m : List HB, (putH c m).length ≤ m.length + 1 ∧ (hadH c.v c.ip m = true → (putH c m).length = m.length)
 | [] => by simp [putH, hadH]
 | d :: m => by
  obtain ⟨h1, h2⟩ := put_length c m
  rw [putH]
  by_cases hc : d.is c.v c.ip = true
  ·
   rw [if_pos hc]; simp
  ·
   rw [if_neg hc]
   refine ⟨by simp; omega, fun h => ?_⟩
   have : hadH c.v c.ip m = true := by
    unfold hadH at *
    rw [List.any_cons] at h
    simpa [hc] using h
   simp [h2 this]
theorem len_learn {v : Int} {ip : List UInt8} {mac : Vector UInt8 6} {ok : Bool} {m : List HB} (h : m.length ≤ 1024) : (learnH v ip mac ok m).length ≤ 1024 := by
 unfold learnH
 obtain ⟨h1, h2⟩ := put_length ⟨v, ip, mac, 0⟩ m
 split
 ·
  rename_i hc
  simp only [Bool.and_eq_true, Bool.or_eq_true, decide_eq_true_eq] at hc
  rcases hc.2 with hc | hc
  ·
   rw [h2 hc]; exact h
  ·
   omega
 ·
  exact h
theorem learn_both (dst src : Vector UInt8 6) (ty : Int) (body : List UInt8) (ip : List UInt8) (mac : Vector UInt8 6) (ok : Bool) (vl : Int) (w : World) {T M : Nat} {time : Int} {m : List HB} (h : HushT w T M time m) (hTM : T ≠ M) (HA : AnnC dst src ty body ip mac ok) :
  Calls Try.prog 19 #[.pointer (some ⟨T, 0, none⟩), .int .i64 vl, .agg (frameV dst src ty body).toArray] w fun e w' => e = .returned (.bool (ok && (hadH vl ip m || decide (m.length < 1024)))) ∧ BelowBut w.heap.size M w w' ∧ HushT w' T M time (learnH vl ip mac ok m) := by
 have hT := h.lt
 have hM := h.ok.lt
 cases ok with
 | false =>
  refine (hLearn_no dst src ty body ip mac w (some ⟨T, 0, none⟩) vl HA).mono ?_
  rintro e w' ⟨rfl, b⟩
  exact ⟨rfl, BelowBut.of b, h.below b hT hM⟩
 | true =>
  by_cases h1 : findH vl ip m ≠ none ∨ m.length < 1024
  ·
   have hb : (hadH vl ip m || decide (m.length < 1024)) = true := by
    rcases h1 with h1 | h1
    ·
     rw [(had_find vl ip m).2 h1, Bool.true_or]
    ·
     rw [decide_eq_true h1, Bool.or_true]
   refine (hLearn_kept dst src ty body ip mac w vl h hTM HA h1).mono ?_
   rintro e w' ⟨rfl, b, h'⟩
   unfold learnH
   rw [hb]
   exact ⟨rfl, b, h'⟩
  ·
   have h2 : findH vl ip m = none ∧ 1024 ≤ m.length :=
    ⟨Classical.byContradiction fun hc => h1 (.inl hc), Classical.byContradiction fun hc => h1 (.inr (by omega))⟩
   have hb : (hadH vl ip m || decide (m.length < 1024)) = false := by
    rw [decide_eq_false (by omega), Bool.or_false]
    exact Bool.eq_false_iff.2 fun hc => (had_find vl ip m).1 hc h2.1
   refine (hLearn_full dst src ty body ip mac w vl h HA h2.1 h2.2).mono ?_
   rintro e w' ⟨rfl, b⟩
   unfold learnH
   rw [hb]
   exact ⟨rfl, BelowBut.of b, h.below b hT hM⟩
end
end Go.Proofs.Ytckckabedgpbiaa
