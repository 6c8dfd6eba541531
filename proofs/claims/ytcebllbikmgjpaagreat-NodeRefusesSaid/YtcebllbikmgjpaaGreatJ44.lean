/- Texts of this proof, merged: NoiV, LnkG, LnkT, LnkK, LnkW, LnkS, LnkI. -/
import Derived.Test.YtcebllbikmgjpaaGreatJ41
import Derived.Test.YtcebllbikmgjpaaGreatJ40
import Derived.Test.YtcebllbikmgjpaaGreatJ43
import Derived.Test.YtcebllbikmgjpaaGreatJ28
import Derived.Test.YtcebllbikmgjpaaGreatJ3
import Derived.Test.YtcebllbikmgjpaaGreatJ37
import Derived.BigQuiet
import Derived.WalkSmall
set_option linter.unusedSimpArgs false
set_option linter.unusedVariables false
set_option maxHeartbeats 8000000
set_option maxRecDepth 20000
namespace Go.Proofs.YtcebllbikmgjpaaGreat
section
open Go.RowKit
structure Like (t u : TalkT) : Prop where
 h : t.h = u.h
 c : t.c = u.c
 k : t.k = u.k
 n : t.n = u.n
def greetL (psk a : List UInt8) : List UInt8 := pubL a ++ tagT (greetT psk a)
def replyL (psk a b : List UInt8) : List UInt8 := ansL psk b (pubL a) (tagT (greetT psk a))
def oneK (psk a b : List UInt8) : List UInt8 := keyA (ansT4 psk b (pubL a) (tagT (greetT psk a)))
def twoK (psk a b : List UInt8) : List UInt8 := keyB (ansT4 psk b (pubL a) (tagT (greetT psk a)))
section
attribute [local irreducible] shaK macL keysF keyN sealL nonceL tagL maskL sharedK metT tookT chainT beginT tagT pubL keyA keyB greetT hailT
end
attribute [local irreducible] greetL hailT
end
section
open Go.RowKit
attribute [local irreducible] greetL hailT
end
section
open Go.RowKit
attribute [local irreducible] greetL hailT
section
variable (psk sec : List UInt8) (r k p d now asked made last : Int) (S : Nat) (w : World) (hp : psk.length = 32) (hS : row w S = (⟨psk, true, r, k, p, d, now, none, none, none, none, asked, made, last⟩ : LinkT).cells.toArray)
include hp hS
end
end
section
open Go.RowKit
attribute [local irreducible] greetL hailT
end
section
open Go.ChangeShapes Go.WideShapes Go.ChangeAt Go.RowKit
attribute [local irreducible] greetL hailT
theorem right15_any (r k p d : Int) (w : World) : Calls Tryz.prog 21 #[.agg #[.int .i64 r, .int .i64 k, .int .i64 p, .int .i64 d]] w fun e w' => e = .returned (.bool (decide (okTimes r k p d))) ∧ Below w.heap.size w w' := by
 go_enter Tryz.func21, Tryz.ntmps21
 obtain ⟨W, hW⟩ : ∃ v, w.alloc (.cells #[.int .i64 r, .int .i64 k, .int .i64 p, .int .i64 d] 70) = v := ⟨_, rfl⟩
 have rT : row W w.heap.size = #[.int .i64 r, .int .i64 k, .int .i64 p, .int .i64 d] := by rw [← hW]; simp [go_sem]
 have bW : Below w.heap.size w W := by
  rw [← hW]
  (repeat (first | exact Below.refl _ _ | refine Below.al ?_ _ | refine Below.drew ?_ | refine Below.sr ?_ _ | refine Below.sc ?_ _))
 go_wp2_with fail
 clear hW
 refine wp_loop_rounds 5 ?_
 rw [rounds_succ]
 by_cases hr : okTime r
 ·
  obtain ⟨r1, r2⟩ := okTime_yes hr
  have HR := h_ hr
  clear hr
  go_wp2_with fail
  rw [rounds_succ]
  by_cases hk : okTime k
  ·
   obtain ⟨k1, k2⟩ := okTime_yes hk
   have HK := h_ hk
   clear hk
   go_wp2_with fail
   rw [rounds_succ]
   by_cases hp2 : okTime p
   ·
    obtain ⟨p1, p2⟩ := okTime_yes hp2
    have HP := h_ hp2
    clear hp2
    go_wp2_with fail
    rw [rounds_succ]
    by_cases hd : okTime d
    ·
     obtain ⟨d1, d2⟩ := okTime_yes hd
     have HD := h_ hd
     clear hd
     go_wp2_with fail
     rw [rounds_succ]
     go_wp2_with fail
     go_ret
     exact ⟨by rw [decide_eq_true (show okTimes r k p d from ⟨HR.out, HK.out, HP.out, HD.out⟩)]; rfl, bW⟩
    ·
     have HN := h_ (show ¬ okTimes r k p d from fun h => hd h.2.2.2)
     rcases okTime_no hd with d1 | ⟨d1, d2⟩ <;>
     ·
      clear hd
      go_wp2_with fail
      go_ret
      exact ⟨by rw [decide_eq_false HN.out]; rfl, bW⟩
   ·
    have HN := h_ (show ¬ okTimes r k p d from fun h => hp2 h.2.2.1)
    rcases okTime_no hp2 with d1 | ⟨d1, d2⟩ <;>
    ·
     clear hp2
     go_wp2_with fail
     go_ret
     exact ⟨by rw [decide_eq_false HN.out]; rfl, bW⟩
  ·
   have HN := h_ (show ¬ okTimes r k p d from fun h => hk h.2.1)
   rcases okTime_no hk with d1 | ⟨d1, d2⟩ <;>
   ·
    clear hk
    go_wp2_with fail
    go_ret
    exact ⟨by rw [decide_eq_false HN.out]; rfl, bW⟩
 ·
  have HN := h_ (show ¬ okTimes r k p d from fun h => hr h.1)
  rcases okTime_no hr with d1 | ⟨d1, d2⟩ <;>
  ·
   clear hr
   go_wp2_with fail
   go_ret
   exact ⟨by rw [decide_eq_false HN.out]; rfl, bW⟩
section
variable (psk s : List UInt8) (r k p d : Int) (w : World)
end
theorem tunParse_ex (s : List UInt8) (hl : s.length ≤ 100000) : ∃ (kd : Int) (n : Nat) (body : List UInt8) (er : Int), (∀ w, Calls Tryz.prog 83 #[.string ⟨s.toArray⟩] w fun e w1 => e = .returned (.tuple #[.agg (gramV kd n body).toArray, .int .i64 er]) ∧ Below w.heap.size w w1) ∧ (er ≠ 0 ∨ (er = 0 ∧ (kd = 1 ∨ kd = 2 ∨ kd = 3))) := by
 have e0 : gramV 0 0 [] = gram0 := rfl
 cases s with
 | nil => exact ⟨0, 0, [], 2, fun w => tunParse_nil w, .inl (by decide)⟩
 | cons b l =>
  simp only [List.length_cons] at hl
  by_cases h0 : b.toNat < 1 ∨ 3 < b.toNat
  ·
   exact ⟨0, 0, [], 3, fun w => tunParse_kind w b l h0 (by omega), .inl (by decide)⟩
  by_cases h3 : b = 3
  ·
   by_cases hs : l.length < 24
   ·
    exact ⟨0, 0, [], 2, fun w => tunParse_short3 w b l h3 hs (by omega), .inl (by decide)⟩
   ·
    exact ⟨3, _, _, 0, fun w => tunParse_ok3 w b l h3 (by omega) (by omega), .inr ⟨rfl, .inr (.inr rfl)⟩⟩
  have h12 : b = 1 ∨ b = 2 := by
   have h1 : b.toNat = 1 ∨ b.toNat = 2 ∨ b.toNat = 3 := by omega
   rcases h1 with h | h | h
   ·
    exact .inl (UInt8.toNat_inj.1 h)
   ·
    exact .inr (UInt8.toNat_inj.1 h)
   ·
    exact absurd (UInt8.toNat_inj.1 h) h3
  rcases Nat.lt_trichotomy l.length 48 with h | h | h
  ·
   exact ⟨0, 0, [], 2, fun w => tunParse_short12 w b l h12 h (by omega), .inl (by decide)⟩
  ·
   refine ⟨(b.toNat : Int), 0, l, 0, fun w => tunParse_ok12 w b l h12 h (by omega), .inr ⟨rfl, ?_⟩⟩
   rcases h12 with rfl | rfl
   ·
    exact .inl rfl
   ·
    exact .inr (.inl rfl)
  ·
   exact ⟨0, 0, [], 3, fun w => tunParse_long12 w b l h12 h (by omega), .inl (by decide)⟩
section
variable (psk s : List UInt8) (r k p d : Int) (w : World)
end
end
section
open Go.RowKit
structure SessT where
 k1 : List UInt8
 k2 : List UInt8
 id : Int
 count : Nat
 top : Nat
 bits : Nat
 some : Bool
 born : Int
 sent : Int
 taken : Int
def SessT.cells (s : SessT) : List Value := u8s s.k1 ++ (u8s s.k2 ++ (.int .i64 s.id :: .int .u64 (s.count : Int) :: .int .u64 (s.top : Int) :: .int .u64 (s.bits : Int) :: .bool s.some :: .int .i64 s.born :: .int .i64 s.sent :: [.int .i64 s.taken]))
structure SessT.ok (s : SessT) : Prop where
 k1 : s.k1.length = 32
 k2 : s.k2.length = 32
section
attribute [local irreducible] sealL nonceL tagL maskL
variable (psk : List UInt8) (g : Bool) (r k p d now asked made last : Int) (A : Nat) (b c talk : Option Addr) (S : Nat) (w : World) (hp : psk.length = 32)
include hp
theorem up_no (hS : row w S = (⟨psk, g, r, k, p, d, now, none, b, c, talk, asked, made, last⟩ : LinkT).cells.toArray) :
  Calls Tryz.prog 40 #[.pointer (some ⟨S, 0, none⟩)] w fun e w' => e = .returned (.bool false) ∧ w' = w := by
 unfold LinkT.cells at hS
 simp only at hS
 go_enter Tryz.func40, Tryz.ntmps40
 go_wp2_with fail
 go_ret
 exact ⟨rfl, rfl⟩
end
end
section
open Go.RowKit
section
attribute [local irreducible] sealL nonceL tagL maskL greetL hailT
variable (psk sec : List UInt8) (g : Bool) (r k p d now asked made last : Int) (A : Nat) (b c talk : Option Addr) (S : Nat) (w : World) (hp : psk.length = 32)
include hp
end
end
end Go.Proofs.YtcebllbikmgjpaaGreat
