/- Texts of this proof, merged: HusA, HusB, HusQ, HusX. -/
import Derived.Test.YtcebllbikmgjpaaGreatJ16
import Derived.Test.YtcebllbikmgjpaaGreatJ15
import Derived.Test.YtcebllbikmgjpaaGreatJ17
set_option linter.unusedSimpArgs false
set_option linter.unusedVariables false
set_option maxHeartbeats 8000000
set_option maxRecDepth 20000
namespace Go.Proofs.YtcebllbikmgjpaaGreat
section
open Go.RowKit
@[simp, go_sem] theorem zeros6h : zeros 6 (Value.int .u8 0) = u8v mac0 := rfl
def grp (mac : Vector UInt8 6) : Bool := mac[0].toNat % 2 == 1
theorem and_1 (b : UInt8) : bits .and .u8 (b.toNat : Int) 1 = ((b.toNat % 2 : Nat) : Int) := by
 have h : ∀ n : Fin 256, bits .and .u8 (n.val : Int) 1 = ((n.val % 2 : Nat) : Int) := by decide +kernel
 exact h ⟨b.toNat, b.toNat_lt⟩
theorem group_any (mac : Vector UInt8 6) (w : World) : Calls Tryz.prog 122 #[.agg (u8v mac).toArray] w fun e w' => e = .returned (.bool (grp mac)) ∧ Below w.heap.size w w' := by
 have h1 := and_1 mac[0]
 obtain ⟨n, hn⟩ : ∃ n, mac[0].toNat % 2 = n := ⟨_, rfl⟩
 have hn2 : n < 2 := by rw [← hn]; exact Nat.mod_lt _ (by decide)
 rw [hn] at h1
 have hg : grp mac = (((n : Int)) == 1) := by
  rw [grp, hn]
  by_cases e : n = 1
  ·
   subst e; rfl
  ·
   have : ¬ (n : Int) = 1 := by omega
   rw [beq_eq_false_iff_ne.2 e, beq_eq_false_iff_ne.2 this]
 rw [hg]
 have e0 : (u8v mac)[0]'(by simp) = Value.int .u8 (mac[0].toNat : Int) := by simp [u8v, u8s]
 clear hg hn
 go_enter Tryz.func122, Tryz.ntmps122
 go_wp2_with fail
 go_ret
 refine ⟨by simp, ?_⟩
 (repeat (first | exact Below.refl _ _ | refine Below.al ?_ _ | refine Below.drew ?_ | refine Below.sr ?_ _ | refine Below.sc ?_ _))
end
section
open Go.RowKit
section
variable (dst src : Vector UInt8 6) (body : List UInt8)
theorem hAnn_other (ty : Int) (h1 : (ty == 2054) = false) (h2 : (ty == 34525) = false) : AnnC dst src ty body [] mac0 false := by
 intro w
 unfold frameV
 go_enter Tryz.func167, Tryz.ntmps167
 go_wp2_with fail
 ((try simp only [Exit.inBlock, Exit.then]); refine bodyPost_ret (results_2 rfl (resOk_row rfl ?_) resOk_tmp) rfl ?_; (simp [go_sem]))
 refine ⟨by simp [go_sem], ?_⟩
 (repeat (first | exact Below.refl _ _ | refine Below.al ?_ _ | refine Below.drew ?_ | refine Below.sr ?_ _ | refine Below.sc ?_ _))
variable (op : Int) (mac tgt : Vector UInt8 6) (ip want : Vector UInt8 4)
end
end
section
open Go.RowKit
def AnsC (T : Option Addr) (v : Int) (dst src : Vector UInt8 6) (ty : Int) (body : List UInt8) (w : World) (fr : List Value) (ok : Bool) : Prop :=
 Calls Tryz.prog 125 #[.pointer T, .int .i64 v, .agg (frameV dst src ty body).toArray] w fun e w' => e = .returned (.tuple #[.agg fr.toArray, .bool ok]) ∧ Below w.heap.size w w'
def zeroFr : List Value := zeros 12 (Value.int .u8 0) ++ [Value.int .i64 0, Value.string ⟨#[]⟩]
section
variable (dst src : Vector UInt8 6) (body : List UInt8) (w : World) (v : Int)
theorem hAns_other (T : Addr) (ty : Int) (h1 : (ty == 2054) = false) (h2 : (ty == 34525) = false) : AnsC (some T) v dst src ty body w zeroFr false := by
 unfold AnsC zeroFr frameV
 go_enter Tryz.func125, Tryz.ntmps125
 go_wp2_with fail
 ((try simp only [Exit.inBlock, Exit.then]); refine bodyPost_ret (results_2 rfl (resOk_row rfl ?_) resOk_tmp) rfl ?_; (simp [go_sem]))
 refine ⟨by simp [go_sem], ?_⟩
 (repeat (first | exact Below.refl _ _ | refine Below.al ?_ _ | refine Below.drew ?_ | refine Below.sr ?_ _ | refine Below.sc ?_ _))
variable (op : Int) (mac tgt : Vector UInt8 6) (ip want : Vector UInt8 4) (er : Int)
end
end
section
open Go.RowKit
def hadH (v : Int) (ip : List UInt8) (m : List HB) : Bool := m.any fun c => c.is v ip
def learnH (v : Int) (ip : List UInt8) (mac : Vector UInt8 6) (ok : Bool) (m : List HB) : List HB := if ok && (hadH v ip m || decide (m.length < 1024)) then putH ⟨v, ip, mac, 0⟩ m else m
theorem had_find (v : Int) (ip : List UInt8) : ∀ m : List HB, (hadH v ip m = true ↔ findH v ip m ≠ none)
 | [] => by simp [hadH, findH]
 | c :: m => by
  have ih := had_find v ip m
  rw [findH]
  by_cases h : c.is v ip = true
  ·
   rw [if_pos h]
   simp [hadH, h]
  ·
   rw [if_neg h, ← ih]
   simp [hadH, h]
theorem learn_both (dst src : Vector UInt8 6) (ty : Int) (body : List UInt8) (ip : List UInt8) (mac : Vector UInt8 6) (ok : Bool) (vl : Int) (w : World) {T M : Nat} {time : Int} {m : List HB} (h : HushT w T M time m) (hTM : T ≠ M) (HA : AnnC dst src ty body ip mac ok) :
  Calls Tryz.prog 124 #[.pointer (some ⟨T, 0, none⟩), .int .i64 vl, .agg (frameV dst src ty body).toArray] w fun e w' => e = .returned (.bool (ok && (hadH vl ip m || decide (m.length < 1024)))) ∧ BelowBut w.heap.size M w w' ∧ HushT w' T M time (learnH vl ip mac ok m) := by
 have hT := h.lt
 have hM := h.ok.lt
 cases ok with
 | false =>
  refine (hLearn_no dst src ty body ip mac w (some ⟨T, 0, none⟩) vl HA).mono ?_
  rintro e w' ⟨rfl, b⟩
  exact ⟨rfl, BelowBut.of b, h.below b hT hM⟩
 | true =>
  by_cases h1 : findH vl ip m ≠ none ∨ m.length < 1024
  ·
   have hb : (hadH vl ip m || decide (m.length < 1024)) = true := by
    rcases h1 with h1 | h1
    ·
     rw [(had_find vl ip m).2 h1, Bool.true_or]
    ·
     rw [decide_eq_true h1, Bool.or_true]
   refine (hLearn_kept dst src ty body ip mac w vl h hTM HA h1).mono ?_
   rintro e w' ⟨rfl, b, h'⟩
   unfold learnH
   rw [hb]
   exact ⟨rfl, b, h'⟩
  ·
   have h2 : findH vl ip m = none ∧ 1024 ≤ m.length :=
    ⟨Classical.byContradiction fun hc => h1 (.inl hc), Classical.byContradiction fun hc => h1 (.inr (by omega))⟩
   have hb : (hadH vl ip m || decide (m.length < 1024)) = false := by
    rw [decide_eq_false (by omega), Bool.or_false]
    exact Bool.eq_false_iff.2 fun hc => (had_find vl ip m).1 hc h2.1
   refine (hLearn_full dst src ty body ip mac w vl h HA h2.1 h2.2).mono ?_
   rintro e w' ⟨rfl, b⟩
   unfold learnH
   rw [hb]
   exact ⟨rfl, BelowBut.of b, h.below b hT hM⟩
structure Asks (dst src : Vector UInt8 6) (ty : Int) (body : List UInt8) (ip : List UInt8) (ans : Vector UInt8 6 → List UInt8) : Prop where
 none : ∀ {w : World} {A M : Nat} {time : Int} {m : List HB} (v : Int), HushT w A M time m → foundH v ip m = (mac0, false) → AnsC (some ⟨A, 0, .none⟩) v dst src ty body w zeroFr false
 some : ∀ {w : World} {A M : Nat} {time : Int} {m : List HB} (v : Int) (who : Vector UInt8 6), HushT w A M time m → foundH v ip m = (who, true) → AnsC (some ⟨A, 0, .none⟩) v dst src ty body w (frameV src who ty (ans who)) true
 said : ∀ who, grp who = false → (ip.length = 4 → ip ≠ List.replicate 4 0) → AnnC src who ty (ans who) ip who true
 big : ∀ who, (ans who).length ≤ 100
 typ : ty = 2054 ∨ ty = 34525
 len : ip.length = 4 ∨ ip.length = 16
end
end Go.Proofs.YtcebllbikmgjpaaGreat
