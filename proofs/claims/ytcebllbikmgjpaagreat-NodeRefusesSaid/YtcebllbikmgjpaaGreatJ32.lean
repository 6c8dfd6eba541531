/- Texts of this proof, merged: Sha, ShaW, ShaM, ShaK, ShaR, ShaQ, ShaC. -/
import Derived.Test.YtcebllbikmgjpaaGreatJ2
import Derived.Test.YtcebllbikmgjpaaGreatBytJ
import Derived.Test.YtcebllbikmgjpaaGreatRegJ
import Derived.Test.YtcebllbikmgjpaaGreatJ29
import Derived.Lib.Hide
import Derived.Test.YtcebllbikmgjpaaGreatJ24
import Derived.Laws.IdiomCopy
import Derived.Test.YtcebllbikmgjpaaGreatPolJ
import Derived.Test.YtcebllbikmgjpaaGreatShelfJ
import Derived.Laws.BitsLemmas
import Derived.Conc.WgArith
set_option linter.unusedSimpArgs false
set_option linter.unusedVariables false
set_option maxHeartbeats 8000000
set_option maxRecDepth 20000
namespace Go.Proofs.YtcebllbikmgjpaaGreat
section
open Go.RowKit
theorem rotn6_any (x : Int) (w : World) :
  Calls Tryz.prog 274 #[.int .u32 x, .int .i64 (-6)] w fun e w' => e = .returned (.int .u32 (rotI x 26)) ∧ w = w' := by
 have hb : bits .and .u64 (IntKind.u64.wrap (-6)) 31 = 26 := by decide +kernel
 go_enter Tryz.func274, Tryz.ntmps274
 go_wp2_with fail
 go_ret
 exact ⟨rfl, rfl⟩
theorem rotn11_any (x : Int) (w : World) :
  Calls Tryz.prog 274 #[.int .u32 x, .int .i64 (-11)] w fun e w' => e = .returned (.int .u32 (rotI x 21)) ∧ w = w' := by
 have hb : bits .and .u64 (IntKind.u64.wrap (-11)) 31 = 21 := by decide +kernel
 go_enter Tryz.func274, Tryz.ntmps274
 go_wp2_with fail
 go_ret
 exact ⟨rfl, rfl⟩
theorem rotn25_any (x : Int) (w : World) :
  Calls Tryz.prog 274 #[.int .u32 x, .int .i64 (-25)] w fun e w' => e = .returned (.int .u32 (rotI x 7)) ∧ w = w' := by
 have hb : bits .and .u64 (IntKind.u64.wrap (-25)) 31 = 7 := by decide +kernel
 go_enter Tryz.func274, Tryz.ntmps274
 go_wp2_with fail
 go_ret
 exact ⟨rfl, rfl⟩
theorem rotn2_any (x : Int) (w : World) :
  Calls Tryz.prog 274 #[.int .u32 x, .int .i64 (-2)] w fun e w' => e = .returned (.int .u32 (rotI x 30)) ∧ w = w' := by
 have hb : bits .and .u64 (IntKind.u64.wrap (-2)) 31 = 30 := by decide +kernel
 go_enter Tryz.func274, Tryz.ntmps274
 go_wp2_with fail
 go_ret
 exact ⟨rfl, rfl⟩
theorem rotn13_any (x : Int) (w : World) :
  Calls Tryz.prog 274 #[.int .u32 x, .int .i64 (-13)] w fun e w' => e = .returned (.int .u32 (rotI x 19)) ∧ w = w' := by
 have hb : bits .and .u64 (IntKind.u64.wrap (-13)) 31 = 19 := by decide +kernel
 go_enter Tryz.func274, Tryz.ntmps274
 go_wp2_with fail
 go_ret
 exact ⟨rfl, rfl⟩
theorem rotn22_any (x : Int) (w : World) :
  Calls Tryz.prog 274 #[.int .u32 x, .int .i64 (-22)] w fun e w' => e = .returned (.int .u32 (rotI x 10)) ∧ w = w' := by
 have hb : bits .and .u64 (IntKind.u64.wrap (-22)) 31 = 10 := by decide +kernel
 go_enter Tryz.func274, Tryz.ntmps274
 go_wp2_with fail
 go_ret
 exact ⟨rfl, rfl⟩
theorem rotn7_any (x : Int) (w : World) :
  Calls Tryz.prog 274 #[.int .u32 x, .int .i64 (-7)] w fun e w' => e = .returned (.int .u32 (rotI x 25)) ∧ w = w' := by
 have hb : bits .and .u64 (IntKind.u64.wrap (-7)) 31 = 25 := by decide +kernel
 go_enter Tryz.func274, Tryz.ntmps274
 go_wp2_with fail
 go_ret
 exact ⟨rfl, rfl⟩
theorem rotn18_any (x : Int) (w : World) :
  Calls Tryz.prog 274 #[.int .u32 x, .int .i64 (-18)] w fun e w' => e = .returned (.int .u32 (rotI x 14)) ∧ w = w' := by
 have hb : bits .and .u64 (IntKind.u64.wrap (-18)) 31 = 14 := by decide +kernel
 go_enter Tryz.func274, Tryz.ntmps274
 go_wp2_with fail
 go_ret
 exact ⟨rfl, rfl⟩
theorem rotn17_any (x : Int) (w : World) :
  Calls Tryz.prog 274 #[.int .u32 x, .int .i64 (-17)] w fun e w' => e = .returned (.int .u32 (rotI x 15)) ∧ w = w' := by
 have hb : bits .and .u64 (IntKind.u64.wrap (-17)) 31 = 15 := by decide +kernel
 go_enter Tryz.func274, Tryz.ntmps274
 go_wp2_with fail
 go_ret
 exact ⟨rfl, rfl⟩
theorem rotn19_any (x : Int) (w : World) :
  Calls Tryz.prog 274 #[.int .u32 x, .int .i64 (-19)] w fun e w' => e = .returned (.int .u32 (rotI x 13)) ∧ w = w' := by
 have hb : bits .and .u64 (IntKind.u64.wrap (-19)) 31 = 13 := by decide +kernel
 go_enter Tryz.func274, Tryz.ntmps274
 go_wp2_with fail
 go_ret
 exact ⟨rfl, rfl⟩
theorem rot_below {f : FuncId} {args : Array Value} {w : World} {P : Program} {v : Value} (h : Calls P f args w fun e w' => e = .returned v ∧ w = w') : Calls P f args w fun e w' => e = .returned v ∧ Below w.heap.size w w' :=
 h.mono fun e w' ⟨h1, h2⟩ => ⟨h1, by rw [← h2]; exact Below.refl _ _⟩
theorem rotn7_b (x : Int) (w : World) : Calls Tryz.prog 274 #[.int .u32 x, .int .i64 (IntKind.i64.wrap (-7))] w fun e w' => e = .returned (.int .u32 (rotI x 25)) ∧ Below w.heap.size w w' := by
 rw [show IntKind.i64.wrap (-7) = -7 by decide]
 exact rot_below (rotn7_any x w)
theorem rotn18_b (x : Int) (w : World) : Calls Tryz.prog 274 #[.int .u32 x, .int .i64 (IntKind.i64.wrap (-18))] w fun e w' => e = .returned (.int .u32 (rotI x 14)) ∧ Below w.heap.size w w' := by
 rw [show IntKind.i64.wrap (-18) = -18 by decide]
 exact rot_below (rotn18_any x w)
theorem rotn17_b (x : Int) (w : World) : Calls Tryz.prog 274 #[.int .u32 x, .int .i64 (IntKind.i64.wrap (-17))] w fun e w' => e = .returned (.int .u32 (rotI x 15)) ∧ Below w.heap.size w w' := by
 rw [show IntKind.i64.wrap (-17) = -17 by decide]
 exact rot_below (rotn17_any x w)
theorem rotn19_b (x : Int) (w : World) : Calls Tryz.prog 274 #[.int .u32 x, .int .i64 (IntKind.i64.wrap (-19))] w fun e w' => e = .returned (.int .u32 (rotI x 13)) ∧ Below w.heap.size w w' := by
 rw [show IntKind.i64.wrap (-19) = -19 by decide]
 exact rot_below (rotn19_any x w)
def threeI (x : Int) (a b c : Nat) : Int := bits .xor .u32 (bits .xor .u32 (rotI x a) (rotI x b)) (rotI x c)
def twoI (x : Int) (a b c : Nat) : Int := bits .xor .u32 (bits .xor .u32 (rotI x a) (rotI x b)) (x / 2 ^ c)
theorem three6_any (x : Int) (w : World) :
  Calls Tryz.prog 252 #[.int .u32 x, .int .i64 6, .int .i64 11, .int .i64 25] w fun e w' => e = .returned (.int .u32 (threeI x 26 21 7)) ∧ w = w' := by
 go_enter Tryz.func252, Tryz.ntmps252
 go_wp2_with fail
 refine (rotn6_any _ _).mono ?_
 rintro e w1 ⟨rfl, rfl⟩
 go_wp2_with fail
 refine (rotn11_any _ _).mono ?_
 rintro e w1 ⟨rfl, rfl⟩
 go_wp2_with fail
 refine (rotn25_any _ _).mono ?_
 rintro e w1 ⟨rfl, rfl⟩
 go_wp2_with fail
 go_ret
 exact ⟨rfl, rfl⟩
theorem three2_any (x : Int) (w : World) :
  Calls Tryz.prog 252 #[.int .u32 x, .int .i64 2, .int .i64 13, .int .i64 22] w fun e w' => e = .returned (.int .u32 (threeI x 30 19 10)) ∧ w = w' := by
 go_enter Tryz.func252, Tryz.ntmps252
 go_wp2_with fail
 refine (rotn2_any _ _).mono ?_
 rintro e w1 ⟨rfl, rfl⟩
 go_wp2_with fail
 refine (rotn13_any _ _).mono ?_
 rintro e w1 ⟨rfl, rfl⟩
 go_wp2_with fail
 refine (rotn22_any _ _).mono ?_
 rintro e w1 ⟨rfl, rfl⟩
 go_wp2_with fail
 go_ret
 exact ⟨rfl, rfl⟩
theorem two7_any (x : Int) (w : World) :
  Calls Tryz.prog 253 #[.int .u32 x, .int .i64 7, .int .i64 18, .int .i64 3] w fun e w' => e = .returned (.int .u32 (twoI x 25 14 3)) ∧ Below w.heap.size w w' := by
 have H1 := h_ (fun w => rotn7_b x w)
 have H2 := h_ (fun w => rotn18_b x w)
 go_enter Tryz.func253, Tryz.ntmps253
 go_wp2_with fail
 refine rgR_ [] (fun hS => ?_)
 refine qp 0 hS ?_
 refine qp 1 hS ?_
 refine qp 2 hS ?_
 refine qc 3 (v := ?_) hS ?_ ?_
 rotate_left
 ·
  intro w' hS'
  simp only [Rws] at hS'
  go_simp
  with_reducible refine (H1.out _).mono ?_
  rintro e w'' ⟨rfl, hb⟩
  exact ⟨_, rfl, by rfl, hb⟩
 refine qp 4 hS ?_
 refine qp 5 hS ?_
 refine qp 6 hS ?_
 refine qc 7 (v := ?_) hS ?_ ?_
 rotate_left
 ·
  intro w' hS'
  simp only [Rws] at hS'
  go_simp
  with_reducible refine (H2.out _).mono ?_
  rintro e w'' ⟨rfl, hb⟩
  exact ⟨_, rfl, by rfl, hb⟩
 refine qp 8 hS ?_
 refine qp 9 hS ?_
 refine qp 10 hS ?_
 refine qp 11 hS ?_
 refine qp 12 hS ?_
 refine qp 13 hS ?_
 refine wpAnyR_done kr_ (fun w1 b1 => ?_) _
 replace b1 : Below (w).heap.size (w) w1 := below_step (Below.drew (Below.refl _ _)) b1
 go_wp2_with fail
 go_ret
 exact ⟨rfl, b1⟩
theorem two17_any (x : Int) (w : World) :
  Calls Tryz.prog 253 #[.int .u32 x, .int .i64 17, .int .i64 19, .int .i64 10] w fun e w' => e = .returned (.int .u32 (twoI x 15 13 10)) ∧ Below w.heap.size w w' := by
 have H1 := h_ (fun w => rotn17_b x w)
 have H2 := h_ (fun w => rotn19_b x w)
 go_enter Tryz.func253, Tryz.ntmps253
 go_wp2_with fail
 refine rgR_ [] (fun hS => ?_)
 refine qp 0 hS ?_
 refine qp 1 hS ?_
 refine qp 2 hS ?_
 refine qc 3 (v := ?_) hS ?_ ?_
 rotate_left
 ·
  intro w' hS'
  simp only [Rws] at hS'
  go_simp
  with_reducible refine (H1.out _).mono ?_
  rintro e w'' ⟨rfl, hb⟩
  exact ⟨_, rfl, by rfl, hb⟩
 refine qp 4 hS ?_
 refine qp 5 hS ?_
 refine qp 6 hS ?_
 refine qc 7 (v := ?_) hS ?_ ?_
 rotate_left
 ·
  intro w' hS'
  simp only [Rws] at hS'
  go_simp
  with_reducible refine (H2.out _).mono ?_
  rintro e w'' ⟨rfl, hb⟩
  exact ⟨_, rfl, by rfl, hb⟩
 refine qp 8 hS ?_
 refine qp 9 hS ?_
 refine qp 10 hS ?_
 refine qp 11 hS ?_
 refine qp 12 hS ?_
 refine qp 13 hS ?_
 refine wpAnyR_done kr_ (fun w1 b1 => ?_) _
 replace b1 : Below (w).heap.size (w) w1 := below_step (Below.drew (Below.refl _ _)) b1
 go_wp2_with fail
 go_ret
 exact ⟨rfl, b1⟩
end
section
open Go.RowKit
def bigI (a b c d : UInt8) : Int := bits .or .u32 (bits .or .u32 (bits .or .u32 (IntKind.u32.wrap (IntKind.u32.wrap (a.toNat : Int) * 16777216)) (IntKind.u32.wrap (IntKind.u32.wrap (b.toNat : Int) * 65536))) (IntKind.u32.wrap (IntKind.u32.wrap (c.toNat : Int) * 256))) (IntKind.u32.wrap (d.toNat : Int))
def wdA (s : List UInt8) (i : Nat) : Int := bigI (s.getD (4 * i) 0) (s.getD (4 * i + 1) 0) (s.getD (4 * i + 2) 0) (s.getD (4 * i + 3) 0)
def wdB (l : List Int) (i : Nat) : Int := IntKind.u32.wrap (IntKind.u32.wrap (IntKind.u32.wrap (l.getD (i - 16) 0 + twoI (l.getD (i - 15) 0) 25 14 3) + l.getD (i - 7) 0) + twoI (l.getD (i - 2) 0) 15 13 10)
def wdF (s : List UInt8) (i : Nat) (l : List Int) : List Int := l.set i (if i < 16 then wdA s i else wdB l i)
def wdL (s : List UInt8) : List Int := upTo (wdF s) 64 (List.replicate 64 0)
theorem wdF_length (s : List UInt8) (i : Nat) (l : List Int) : (wdF s i l).length = l.length := by simp [wdF]
theorem wdL_length (s : List UInt8) : (wdL s).length = 64 := by rw [wdL, upTo_len (wdF_length s)]; simp
attribute [local irreducible] twoI upTo
theorem words_any (s : List UInt8) (w : World) (hs : s.length = 64) :
  Calls Tryz.prog 222 #[.string ⟨s.toArray⟩] w fun e w' => e = .returned (.agg (u32s (wdL s)).toArray) ∧ Below w.heap.size w w' := by
 go_enter Tryz.func222, Tryz.ntmps222
 go_wp2_with fail
 go_loopw [5] (fun i wr => ∃ m : Nat, m ≤ 64 ∧ i = .int .i64 m ∧ row wr (w.heap.size + 1) = (u32s (upTo (wdF s) m (List.replicate 64 0))).toArray ∧ row wr w.heap.size = (zeros 64 (.int .u32 0)).toArray ∧ w.heap.size + 1 < wr.heap.size ∧ Below w.heap.size w wr) (fun i _ => 64 - (intOf i).toNat)
 case atStart =>
  refine ⟨0, by omega, rfl, ?_, by simp [go_sem], by simp, blw_⟩
  rw [upTo, u32s_zeros]
  simp [go_sem]
 case round =>
  obtain ⟨m, hm, rfl, hV, hR, hz, hbel⟩ := hrel
  obtain ⟨L, hL⟩ : ∃ L, upTo (wdF s) m (List.replicate 64 0) = L := ⟨_, rfl⟩
  have hLl : L.length = 64 := by rw [← hL, upTo_len (wdF_length _)]; simp
  rw [hL] at hV
  have HL := h_ hL
  clear hL
  by_cases hlt : m < 64
  ·
   have h1 : (m : Int) < 64 := by omega
   have h3 : m < L.length := by omega
   by_cases h16 : m < 16
   ·
    have j1 : (m : Int) < 16 := by omega
    obtain ⟨x, hx⟩ : ∃ x, wdA s m = x := ⟨_, rfl⟩
    obtain ⟨p, hp⟩ : ∃ p, 4 * m = p := ⟨_, rfl⟩
    obtain ⟨p1, hp1⟩ : ∃ q, p + 1 = q := ⟨_, rfl⟩
    obtain ⟨p2, hp2⟩ : ∃ q, p + 2 = q := ⟨_, rfl⟩
    obtain ⟨p3, hp3⟩ : ∃ q, p + 3 = q := ⟨_, rfl⟩
    have e0 : (4 : Int) * m = p := by omega
    have e1 : (p : Int) + 1 = p1 := by omega
    have e2 : (p : Int) + 2 = p2 := by omega
    have e3 : (p : Int) + 3 = p3 := by omega
    have k0 : p < s.length := by omega
    have k1 : p1 < s.length := by omega
    have k2 : p2 < s.length := by omega
    have k3 : p3 < s.length := by omega
    have b0 : (p : Int) < 64 := by omega
    have b1 : (p1 : Int) < 64 := by omega
    have b2 : (p2 : Int) < 64 := by omega
    have b3 : (p3 : Int) < 64 := by omega
    have q0 : IntKind.i64.wrap (p : Int) = p := wrapN _ _ rfl (by omega)
    have q1 : IntKind.i64.wrap (p1 : Int) = p1 := wrapN _ _ rfl (by omega)
    have q2 : IntKind.i64.wrap (p2 : Int) = p2 := wrapN _ _ rfl (by omega)
    have q3 : IntKind.i64.wrap (p3 : Int) = p3 := wrapN _ _ rfl (by omega)
    have hX : x = bits .or .u32 (bits .or .u32 (bits .or .u32 (IntKind.u32.wrap (IntKind.u32.wrap (s[p].toNat : Int) * 16777216)) (IntKind.u32.wrap (IntKind.u32.wrap (s[p1].toNat : Int) * 65536))) (IntKind.u32.wrap (IntKind.u32.wrap (s[p2].toNat : Int) * 256))) (IntKind.u32.wrap (s[p3].toNat : Int)) := by
     rw [← hx, wdA, hp, hp1, hp2, hp3, getD_elem _ _ _ k0, getD_elem _ _ _ k1, getD_elem _ _ _ k2, getD_elem _ _ _ k3, bigI]
    have HX := h_ hX
    have HW := h_ hx
    clear hX hx hp hp1 hp2 hp3
    go_wp2_with fail
    have hVd : row wr.drew (w.heap.size + 1) = (u32s L).toArray := hV
    refine rgR_ [] (fun hS => ?_)
    refine qp 0 hS ?_
    refine qp 1 hS ?_
    refine qp 2 hS ?_
    refine qp 3 hS ?_
    refine qp 4 hS ?_
    refine qp 5 hS ?_
    refine qp 6 hS ?_
    refine qp 7 hS ?_
    refine qp 8 hS ?_
    refine qp 9 hS ?_
    refine qp 10 hS ?_
    refine qp 11 hS ?_
    refine qp 12 hS ?_
    refine qp 13 hS ?_
    refine qp 14 hS ?_
    refine qp 15 hS ?_
    refine qp 16 hS ?_
    refine qp 17 hS ?_
    refine qp 18 hS ?_
    refine qp 19 hS ?_
    refine qp 20 hS ?_
    refine qp 21 hS ?_
    refine qp 22 hS ?_
    refine qp 23 hS ?_
    refine qp 24 hS ?_
    refine qp 25 hS ?_
    refine qp 26 hS ?_
    refine qp 27 hS ?_
    refine qp 28 hS ?_
    refine qp 29 hS ?_
    refine qp 30 hS ?_
    rw [← HX.out]
    refine wpAnyR_store (i := 31) (b := w.heap.size + 1) (c := (u32s (L.set m x)).toArray) opt_ rfl rfl kr_ (by simp; (try omega)) hS (by rw [hVd]; simp; (try omega)) (fun w1 hr => by rw [hVd] at hr; go_simp; (try rfl)) (fun u1 hu1 ru1 hS => ?_)
    refine wpAnyR_done kr_ (fun wN hN => ?_) _
    have z1 := hu1.size
    have zN := hN.size
    have hz' : w.heap.size + 1 < u1.heap.size := by have : wr.drew.heap.size = wr.heap.size := rfl; omega
    rw [setRow_size] at zN
    have hVN : row wN (w.heap.size + 1) = (u32s (L.set m x)).toArray := by
     rw [row_below hN (by rw [setRow_size]; omega)]
     exact row_setRow_same (by rw [ru1, hVd]; simp; omega) (by rw [ru1, hVd]; simp)
    have hRN : row wN w.heap.size = (zeros 64 (.int .u32 0)).toArray := by
     rw [row_below hN (by rw [setRow_size]; omega), row_setRow_other _ _ _ (by omega), row_below hu1 (by have : wr.drew.heap.size = wr.heap.size := rfl; omega)]
     exact hR
    have bN : Below w.heap.size w wN := Below.trans (Below.setRow (Below.trans (Below.drew hbel) (hu1.mono (by have : wr.drew.heap.size = wr.heap.size := rfl; omega))) (by omega) _) (hN.mono (by rw [setRow_size]; omega))
    clear hu1 ru1 hS hN
    go_wp2_with fail
    go_roundw
    case rel =>
     refine ⟨m + 1, by omega, rfl, ?_, hRN, by omega, bN⟩
     rw [hVN, upTo, HL.out, wdF, if_pos h16, HW.out]
    case measure => simp [intOf]; omega
   ·
    have j1 : ¬ (m : Int) < 16 := by omega
    have hml : 16 ≤ m := by omega
    obtain ⟨y, hy⟩ : ∃ y, wdB L m = y := ⟨_, rfl⟩
    obtain ⟨a16, ha16⟩ : ∃ q, m - 16 = q := ⟨_, rfl⟩
    have e16 : (m : Int) - 16 = a16 := by omega
    have l16 : a16 < L.length := by omega
    have b16 : (a16 : Int) < 64 := by omega
    have c16 : a16 < 64 := by omega
    have w16 : IntKind.i64.wrap (a16 : Int) = a16 := wrapN _ _ rfl (by omega)
    obtain ⟨a15, ha15⟩ : ∃ q, m - 15 = q := ⟨_, rfl⟩
    have e15 : (m : Int) - 15 = a15 := by omega
    have l15 : a15 < L.length := by omega
    have b15 : (a15 : Int) < 64 := by omega
    have c15 : a15 < 64 := by omega
    have w15 : IntKind.i64.wrap (a15 : Int) = a15 := wrapN _ _ rfl (by omega)
    obtain ⟨a7, ha7⟩ : ∃ q, m - 7 = q := ⟨_, rfl⟩
    have e7 : (m : Int) - 7 = a7 := by omega
    have l7 : a7 < L.length := by omega
    have b7 : (a7 : Int) < 64 := by omega
    have c7 : a7 < 64 := by omega
    have w7 : IntKind.i64.wrap (a7 : Int) = a7 := wrapN _ _ rfl (by omega)
    obtain ⟨a2, ha2⟩ : ∃ q, m - 2 = q := ⟨_, rfl⟩
    have e2 : (m : Int) - 2 = a2 := by omega
    have l2 : a2 < L.length := by omega
    have b2 : (a2 : Int) < 64 := by omega
    have c2 : a2 < 64 := by omega
    have w2 : IntKind.i64.wrap (a2 : Int) = a2 := wrapN _ _ rfl (by omega)
    have hY : IntKind.u32.wrap (IntKind.u32.wrap (IntKind.u32.wrap (L[a16] + twoI L[a15] 25 14 3) + L[a7]) + twoI L[a2] 15 13 10) = y := by
     rw [← hy, wdB, ha16, ha15, ha7, ha2, getD_elem _ _ _ l16, getD_elem _ _ _ l15, getD_elem _ _ _ l7, getD_elem _ _ _ l2]
    have HY := h_ hY
    have HW := h_ hy
    have T1 := h_ (fun w => two7_any L[a15] w)
    have T2 := h_ (fun w => two17_any L[a2] w)
    clear hY hy ha16 ha15 ha7 ha2
    go_wp2_with fail
    have hVd : row wr.drew (w.heap.size + 1) = (u32s L).toArray := hV
    refine rgK_ 23 [(w.heap.size + 1, (u32s L).toArray)] [] (fun hS => ?_)
    refine kp 0 hS ?_
    refine kp 1 hS ?_
    refine kp 2 hS ?_
    refine kp 3 hS ?_
    refine kp 4 hS ?_
    refine kp 5 hS ?_
    refine kp 6 hS ?_
    refine kp 7 hS ?_
    refine kp 8 hS ?_
    refine kp 11 hS ?_
    refine kp 12 hS ?_
    refine kp 13 hS ?_
    refine kp 14 hS ?_
    refine kp 16 hS ?_
    refine kp 17 hS ?_
    refine kp 18 hS ?_
    refine kp 19 hS ?_
    refine wpAnyK_take (i := 9) (v := ?_) opt_ kr_ kr_ kr_ kr_ (by first | exact fun _ _ _ h => h | exact fun _ _ _ h => by cases h.1) (Rws.grow _) (Or.inl ⟨by rfl, ?_⟩) hS ?_
    rotate_left
    ·
     intro w' hS'
     simp only [Rws] at hS'
     go_simp
     with_reducible refine (T1.out _).mono ?_
     rintro e w'' ⟨rfl, hb⟩
     refine ⟨_, rfl, ?_, hb⟩
     rfl
    (try simp only [Act.put, List.setIfInBounds_toArray, List.set_cons_zero, List.set_cons_succ])
    refine kp 10 hS ?_
    refine kp 15 hS ?_
    refine wpAnyK_take (i := 20) (v := ?_) opt_ kr_ kr_ kr_ kr_ (by first | exact fun _ _ _ h => h | exact fun _ _ _ h => by cases h.1) (Rws.grow _) (Or.inl ⟨by rfl, ?_⟩) hS ?_
    rotate_left
    ·
     intro w' hS'
     simp only [Rws] at hS'
     go_simp
     with_reducible refine (T2.out _).mono ?_
     rintro e w'' ⟨rfl, hb⟩
     refine ⟨_, rfl, ?_, hb⟩
     rfl
    (try simp only [Act.put, List.setIfInBounds_toArray, List.set_cons_zero, List.set_cons_succ])
    refine kp 21 hS ?_
    refine kp 22 hS ?_
    refine wpAnyK_store (k := 23) opt_ rfl rfl kr_ (fun u1 hu1 => ?_)
    have ru1 : row u1 (w.heap.size + 1) = (u32s L).toArray := by rw [row_below hu1 (by have : wr.drew.heap.size = wr.heap.size := rfl; omega)]; exact hV
    have z1 := hu1.size
    refine ⟨u1.setRow (w.heap.size + 1) (u32s (L.set m y)).toArray, by go_simp; rw [HY.out], trivial, fun hS => ?_⟩
    refine wpAnyR_done kr_ (fun wN hN => ?_) _
    have zN := hN.size
    have hz' : w.heap.size + 1 < u1.heap.size := by have : wr.drew.heap.size = wr.heap.size := rfl; omega
    rw [setRow_size] at zN
    have hVN : row wN (w.heap.size + 1) = (u32s (L.set m y)).toArray := by
     rw [row_below hN (by rw [setRow_size]; omega)]
     exact row_setRow_same (by rw [ru1]; simp; omega) (by rw [ru1]; simp)
    have hRN : row wN w.heap.size = (zeros 64 (.int .u32 0)).toArray := by
     rw [row_below hN (by rw [setRow_size]; omega), row_setRow_other _ _ _ (by omega), row_below hu1 (by have : wr.drew.heap.size = wr.heap.size := rfl; omega)]
     exact hR
    have bN : Below w.heap.size w wN := Below.trans (Below.setRow (Below.trans (Below.drew hbel) (hu1.mono (by have : wr.drew.heap.size = wr.heap.size := rfl; omega))) (by omega) _) (hN.mono (by rw [setRow_size]; omega))
    clear hu1 ru1 hS hN
    go_wp2_with fail
    go_roundw
    case rel =>
     refine ⟨m + 1, by omega, rfl, ?_, hRN, by omega, bN⟩
     rw [hVN, upTo, HL.out, wdF, if_neg h16, HW.out]
    case measure => simp [intOf]; omega
  ·
   obtain rfl : m = 64 := by omega
   rw [show ((64 : Nat) : Int) = 64 from rfl]
   have e : L = wdL s := HL.out.symm
   rw [e] at hLl hV
   go_wp2_with fail
   have hfin := row_setRow_same (w := wr) (g := w.heap.size) (c := (u32s (wdL s)).toArray) (by rw [hR]; simp) (by rw [hR]; simp [hLl])
   (try simp only [Exit.inBlock, Exit.then])
   refine bodyPost_ret (results_1 rfl (resOk_row rfl ?_)) rfl ?_
   ·
    rw [hfin]
    simp [hLl]
   refine ⟨by rw [hfin], ?_⟩
   exact Below.setRow hbel (by omega) _
end
section
open Go.RowKit
theorem copy_row {P : Program} (w : World) (dT sT ty elem : TypeId) (b o dLen dCap g p sLen sCap : Nat) (cs : List Value)
  (hu : P.underlying dT = some (.slice elem)) (hs : (P.info? elem).map (·.size) = some 1) (hn : cs.length = Nat.min sLen dLen)
  (hsrc : ∀ j v, cs[j]? = some v → (row w g)[p + j]? = some v) (hfit : o + cs.length ≤ (row w b).size) (h0 : 0 < cs.length) (h1 : ∀ v ∈ cs, v.oneCell' = true) :
  (Builtin.copy_ #[dT, sT] ty #[.slice (some ⟨b, o, none⟩) dLen dCap, .slice (some ⟨g, p, none⟩) sLen sCap]).run P w = .ok (goInt cs.length) (w.setRow b (splice (row w b) o cs.toArray)) := by
 rw [← setCells_eq_setRow cs w o hfit h0]
 refine run_copy_cells w dT sT ty elem b o dLen dCap ⟨g, p, none⟩ sLen sCap cs hu hs hn (fun j v hj => ?_) (fun j hj => ?_) (fun j hj => ?_) h1
 ·
  have h := hsrc j v hj
  have hadd : (⟨g, p, none⟩ : Addr).add j = ⟨g, p + j, none⟩ := by unfold Addr.add; split <;> simp_all
  have hlt : p + j < (row w g).size := by
   rcases Nat.lt_or_ge (p + j) (row w g).size with h2 | h2
   ·
    exact h2
   ·
    rw [Array.getElem?_eq_none h2] at h; cases h
  rw [hadd, cell_of_row' hlt]
  exact h
 ·
  rw [cell_of_row' (by omega)]
  simp
  omega
 ·
  exact frozen_of_row' (by omega)
section
variable {P : Program} {md : Region.Mode} {ops : Array Oper} {Q : Exit → Act → World → Prop} {S : World → Prop}
theorem wpAnyR_copy {i b off dLen dCap p sLen sCap : Nat} {o : Oper} {fuel : Nat} {listed : Array Bool} {a : Act} {w : World} (ho : ops[i]? = some o) (g : o.guard = none) {d s : Operand} {dT sT elem : TypeId}
  (hop : o.op = .call { callee := .builtin .copy, args := #[d, s], argTypes := #[dT, sT] }) (hr : Region.ready md ops listed = [i])
  (hu : P.underlying dT = some (.slice elem)) (hs : (P.info? elem).map (·.size) = some 1)
  (hd : a.eval d = .slice (some ⟨b, off, none⟩) dLen dCap) (hsv : a.eval s = .slice (some ⟨b, p, none⟩) sLen sCap) {cur : Array Value} (cs : List Value) (hc : row w b = cur)
  (hn : cs.length = Nat.min sLen dLen) (hsrc : ∀ j v, cs[j]? = some v → cur[p + j]? = some v) (hfit : off + cs.length ≤ cur.size) (h0 : 0 < cs.length) (h1 : ∀ v ∈ cs, v.oneCell' = true)
  (h : ∀ w1, Below w.heap.size w w1 → row w1 b = cur → wpAnyR P md ops Q (Rws []) fuel (listed.setIfInBounds i true) (a.put o.dst (goInt cs.length)) (w1.setRow b (splice cur off cs.toArray))) :
  wpAnyR P md ops Q (Rws []) (fuel + 1) listed a w := by
 refine wpAnyR_one ho g hr fun w1 b1 => ?_
 have hc1 : row w1 b = cur := by rw [row_below b1 (lt_of_row (i := 0) (by rw [hc]; omega)), hc]
 have hrun := copy_row (P := P) w1 dT sT o.type elem b off dLen dCap b p sLen sCap cs hu hs hn (by rw [hc1]; exact hsrc) (by rw [hc1]; exact hfit) h0 h1
 rw [hc1] at hrun
 refine ⟨.value (goInt cs.length), goInt cs.length, w1.setRow b (splice cur off cs.toArray), ?_, rfl, trivial, h w1 b1 hc1⟩
 simp [execOp, hop, resolve, invoke, builtin, hd, hsv, hrun, Result.andThen]
end
theorem three6_b (x : Int) (w : World) : Calls Tryz.prog 252 #[.int .u32 x, .int .i64 6, .int .i64 11, .int .i64 25] w fun e w' => e = .returned (.int .u32 (threeI x 26 21 7)) ∧ Below w.heap.size w w' := rot_below (three6_any x w)
theorem three2_b (x : Int) (w : World) : Calls Tryz.prog 252 #[.int .u32 x, .int .i64 2, .int .i64 13, .int .i64 22] w fun e w' => e = .returned (.int .u32 (threeI x 30 19 10)) ∧ Below w.heap.size w w' := rot_below (three2_any x w)
def tI (e f g h k x : Int) : Int := IntKind.u32.wrap (IntKind.u32.wrap (IntKind.u32.wrap (IntKind.u32.wrap (h + threeI e 26 21 7) + bits .xor .u32 (bits .and .u32 e f) (bits .and .u32 (bits .xor .u32 (if IntKind.u32.signed = true then -1 else IntKind.u32.max) e) g)) + k) + x)
def uI (a b c : Int) : Int := IntKind.u32.wrap (threeI a 30 19 10 + bits .xor .u32 (bits .xor .u32 (bits .and .u32 a b) (bits .and .u32 a c)) (bits .and .u32 b c))
def mixF (k x : List Int) (i : Nat) : List Int → List Int
 | [a, b, c, d, e, f, g, h] => [(tI e f g h (k.getD i 0) (x.getD i 0) + uI a b c) % 4294967296, a, b, c, (d + tI e f g h (k.getD i 0) (x.getD i 0)) % 4294967296, e, f, g]
 | l => l
theorem eight {l : List Int} (h : l.length = 8) : ∃ a b c d e f g k, l = [a, b, c, d, e, f, g, k] := by
 rcases l with _ | ⟨a, _ | ⟨b, _ | ⟨c, _ | ⟨d, _ | ⟨e, _ | ⟨f, _ | ⟨g, _ | ⟨k, _ | ⟨m, l⟩⟩⟩⟩⟩⟩⟩⟩⟩ <;> simp at h
 exact ⟨_, _, _, _, _, _, _, _, rfl⟩
theorem mixF_length (k x : List Int) (i : Nat) (l : List Int) : (mixF k x i l).length = l.length := by
 unfold mixF
 split <;> simp
def mixL (h x k : List Int) : List Int := upTo (addF h) 8 (upTo (mixF k x) 64 h)
theorem mixL_length (h x k : List Int) : (mixL h x k).length = h.length := by rw [mixL, upTo_len (addF_length h), upTo_len (mixF_length k x)]
attribute [local irreducible] threeI upTo
theorem mixed_any (z x k : List Int) (w : World) (hh : z.length = 8) (hx : x.length = 64) (hk : k.length = 64) :
  Calls Tryz.prog 221 #[.agg (u32s z).toArray, .agg (u32s x).toArray, .agg (u32s k).toArray] w fun e w' => e = .returned (.agg (u32s (mixL z x k)).toArray) ∧ Below w.heap.size w w' := by
 go_enter Tryz.func221, Tryz.ntmps221
 go_wp2_with fail
 go_loopw [13] (fun i wr => ∃ m : Nat, m ≤ 64 ∧ i = .int .i64 m ∧ row wr (w.heap.size + 1 + 1 + 1 + 1) = (u32s (upTo (mixF k x) m z)).toArray ∧ row wr (w.heap.size + 1 + 1 + 1) = (zeros 8 (.int .u32 0)).toArray ∧ row wr (w.heap.size + 1 + 1) = (u32s k).toArray ∧ row wr (w.heap.size + 1) = (u32s x).toArray ∧ row wr w.heap.size = (u32s z).toArray ∧ w.heap.size + 1 + 1 + 1 + 1 < wr.heap.size ∧ Below w.heap.size w wr) (fun i _ => 64 - (intOf i).toNat)
 case atStart =>
  refine ⟨0, by omega, rfl, ?_, ?_, ?_, ?_, ?_, by simp, blw_⟩
  ·
   rw [upTo]
   simp [go_sem]
   obtain ⟨a, b, c, d, e, f, g, k, rfl⟩ := eight hh
   simp [u32s]
  ·
   simp [go_sem]
  ·
   simp [go_sem]
  ·
   simp [go_sem]
  ·
   simp [go_sem]
 case round =>
  obtain ⟨m, hm, rfl, hV, hR, hK, hX, hH, hz, hbel⟩ := hrel
  obtain ⟨L, hL⟩ : ∃ L, upTo (mixF k x) m z = L := ⟨_, rfl⟩
  have hLl : L.length = 8 := by rw [← hL, upTo_len (mixF_length k x), hh]
  rw [hL] at hV
  have HL := h_ hL
  clear hL
  by_cases hlt : m < 64
  ·
   have h1 : (m : Int) < 64 := by omega
   obtain ⟨va, vb, vc, vd, ve, vf, vg, vh, hv⟩ := eight hLl
   rw [hv] at hV
   have HV := h_ hv
   clear hv hLl
   have hV' : row wr (w.heap.size + 1 + 1 + 1 + 1) = #[.int .u32 va, .int .u32 vb, .int .u32 vc, .int .u32 vd, .int .u32 ve, .int .u32 vf, .int .u32 vg, .int .u32 vh] := by rw [hV]; simp [u32s]
   clear hV
   have kx : m < x.length := by omega
   have kk : m < k.length := by omega
   have T1 := h_ (fun w => three6_b ve w)
   have T2 := h_ (fun w => three2_b va w)
   go_wp2_with fail
   refine rgR_ [(w.heap.size + 1 + 1 + 1 + 1, #[.int .u32 va, .int .u32 vb, .int .u32 vc, .int .u32 vd, .int .u32 ve, .int .u32 vf, .int .u32 vg, .int .u32 vh]), (w.heap.size + 1 + 1, (u32s k).toArray), (w.heap.size + 1, (u32s x).toArray)] (fun hS => ?_)
   refine qp 0 hS ?_
   refine qp 1 hS ?_
   refine qp 2 hS ?_
   refine qp 3 hS ?_
   refine qc 4 (v := ?_) hS ?_ ?_
   rotate_left
   ·
    intro w' hS'
    simp only [Rws] at hS'
    go_simp
    with_reducible refine (T1.out _).mono ?_
    rintro e w'' ⟨rfl, hb⟩
    exact ⟨_, rfl, by rfl, hb⟩
   refine qp 5 hS ?_
   refine qp 6 hS ?_
   refine qp 7 hS ?_
   refine qp 8 hS ?_
   refine qp 9 hS ?_
   refine qp 10 hS ?_
   refine qp 11 hS ?_
   refine qp 12 hS ?_
   refine qp 13 hS ?_
   refine qp 14 hS ?_
   refine qp 15 hS ?_
   refine qp 16 hS ?_
   refine qp 17 hS ?_
   refine qp 18 hS ?_
   refine qp 19 hS ?_
   refine qp 20 hS ?_
   refine qp 21 hS ?_
   refine qp 22 hS ?_
   refine qp 23 hS ?_
   refine qp 24 hS ?_
   refine qp 25 hS ?_
   refine qp 26 hS ?_
   refine qp 27 hS ?_
   refine wpAnyR_done kr_ (fun w2 b2 => ?_) _
   replace b2 : Below (wr).heap.size (wr) w2 := below_step (Below.drew (Below.refl _ _)) b2
   have z2 := b2.size
   have hV2 := (row_below b2 (by omega)).trans hV'
   have hR2 := (row_below b2 (by omega)).trans hR
   have hK2 := (row_below b2 (by omega)).trans hK
   have hX2 := (row_below b2 (by omega)).trans hX
   have hH2 := (row_below b2 (by omega)).trans hH
   have hb2 : Below w.heap.size w w2 := Below.trans hbel (b2.mono (by omega))
   have hz2 : w.heap.size + 1 + 1 + 1 + 1 < w2.heap.size := by omega
   obtain ⟨T, hT⟩ : ∃ T, tI ve vf vg vh k[m] x[m] = T := ⟨_, rfl⟩
   rw [show IntKind.u32.wrap (IntKind.u32.wrap (IntKind.u32.wrap (IntKind.u32.wrap (vh + threeI ve 26 21 7) + bits .xor .u32 (bits .and .u32 ve vf) (bits .and .u32 (bits .xor .u32 (if IntKind.u32.signed = true then -1 else IntKind.u32.max) ve) vg)) + k[m]) + x[m]) = T from hT]
   have HT := h_ hT
   clear hT b2 z2 hV' hR hK hX hH hbel T1 hz
   go_wp2_with fail
   refine rgR_ [(w.heap.size + 1 + 1 + 1 + 1, #[.int .u32 va, .int .u32 vb, .int .u32 vc, .int .u32 vd, .int .u32 ve, .int .u32 vf, .int .u32 vg, .int .u32 vh])] (fun hS => ?_)
   refine qp 0 hS ?_
   refine qp 1 hS ?_
   refine qc 2 (v := ?_) hS ?_ ?_
   rotate_left
   ·
    intro w' hS'
    simp only [Rws] at hS'
    go_simp
    with_reducible refine (T2.out _).mono ?_
    rintro e w'' ⟨rfl, hb⟩
    exact ⟨_, rfl, by rfl, hb⟩
   refine qp 3 hS ?_
   refine qp 4 hS ?_
   refine qp 5 hS ?_
   refine qp 6 hS ?_
   refine qp 7 hS ?_
   refine qp 8 hS ?_
   refine qp 9 hS ?_
   refine qp 10 hS ?_
   refine qp 11 hS ?_
   refine qp 12 hS ?_
   refine qp 13 hS ?_
   refine qp 14 hS ?_
   refine qp 15 hS ?_
   refine qp 16 hS ?_
   refine qp 17 hS ?_
   refine qp 18 hS ?_
   refine qp 19 hS ?_
   refine qp 20 hS ?_
   refine qp 21 hS ?_
   refine wpAnyR_done kr_ (fun w3 b3 => ?_) _
   replace b3 : Below (w2).heap.size (w2) w3 := below_step (Below.drew (Below.refl _ _)) b3
   have z3 := b3.size
   have hV3 := (row_below b3 (by omega)).trans hV2
   have hR3 := (row_below b3 (by omega)).trans hR2
   have hK3 := (row_below b3 (by omega)).trans hK2
   have hX3 := (row_below b3 (by omega)).trans hX2
   have hH3 := (row_below b3 (by omega)).trans hH2
   have hb3 : Below w.heap.size w w3 := Below.trans hb2 (b3.mono (by omega))
   have hz3 : w.heap.size + 1 + 1 + 1 + 1 < w3.heap.size := by omega
   obtain ⟨U, hU⟩ : ∃ U, uI va vb vc = U := ⟨_, rfl⟩
   rw [show IntKind.u32.wrap (threeI va 30 19 10 + bits .xor .u32 (bits .xor .u32 (bits .and .u32 va vb) (bits .and .u32 va vc)) (bits .and .u32 vb vc)) = U from hU]
   have HU := h_ hU
   clear hU b3 z3 hV2 hR2 hK2 hX2 hH2 hb2 T2 hz2
   go_wp2_with fail
   refine rgR_ [] (fun hS => ?_)
   refine qp 0 hS ?_
   refine qp 1 hS ?_
   refine wpAnyR_copy (i := 2) (elem := 100) (cur := #[.int .u32 va, .int .u32 vb, .int .u32 vc, .int .u32 vd, .int .u32 ve, .int .u32 vf, .int .u32 vg, .int .u32 vh]) (b := w.heap.size + 1 + 1 + 1 + 1) opt_ rfl rfl kr_ rfl rfl rfl rfl [.int .u32 va, .int .u32 vb, .int .u32 vc, .int .u32 vd, .int .u32 ve, .int .u32 vf, .int .u32 vg] hV3 ?_ ?_ ?_ ?_ ?_ ?_
   ·
    rfl
   ·
    intro j v hj
    have hj7 : j < 7 := by
     rcases Nat.lt_or_ge j 7 with q | q
     ·
      exact q
     ·
      rw [List.getElem?_eq_none (by simpa using q)] at hj; cases hj
    rcases j with _ | _ | _ | _ | _ | _ | _ | j
    ·
     exact hj
    ·
     exact hj
    ·
     exact hj
    ·
     exact hj
    ·
     exact hj
    ·
     exact hj
    ·
     exact hj
    ·
     omega
   ·
    simp
   ·
    simp
   ·
    simp [Value.oneCell']
   intro w4 b4 r4
   rw [show splice #[Value.int .u32 va, .int .u32 vb, .int .u32 vc, .int .u32 vd, .int .u32 ve, .int .u32 vf, .int .u32 vg, .int .u32 vh] 1 [Value.int .u32 va, .int .u32 vb, .int .u32 vc, .int .u32 vd, .int .u32 ve, .int .u32 vf, .int .u32 vg].toArray = #[Value.int .u32 va, .int .u32 va, .int .u32 vb, .int .u32 vc, .int .u32 vd, .int .u32 ve, .int .u32 vf, .int .u32 vg] from rfl]
   (try simp only [Act.put, List.setIfInBounds_toArray, List.set_cons_zero, List.set_cons_succ])
   refine wpAnyR_done kr_ (fun w5 b5 => ?_) _
   have z4 := b4.size
   have z5 := b5.size
   rw [setRow_size] at z5
   have zd : w3.drew.heap.size = w3.heap.size := rfl
   have hV5 : row w5 (w.heap.size + 1 + 1 + 1 + 1) = #[.int .u32 va, .int .u32 va, .int .u32 vb, .int .u32 vc, .int .u32 vd, .int .u32 ve, .int .u32 vf, .int .u32 vg] := by
    rw [row_below b5 (by rw [setRow_size]; omega)]
    exact row_setRow_same (by rw [r4]; simp) (by rw [r4]; rfl)
   have keep : ∀ g, g < w.heap.size + 1 + 1 + 1 + 1 → row w5 g = row w3 g := fun g hg => by
    rw [row_below b5 (by rw [setRow_size]; omega), row_setRow_other _ _ _ (by omega), row_below b4 (by omega)]
    rfl
   have hR5 := (keep _ (by omega)).trans hR3
   have hK5 := (keep _ (by omega)).trans hK3
   have hX5 := (keep _ (by omega)).trans hX3
   have hH5 := (keep _ (by omega)).trans hH3
   have hb5 : Below w.heap.size w w5 := Below.trans (Below.setRow (Below.trans (Below.drew hb3) (b4.mono (by omega))) (by omega) _) (b5.mono (by rw [setRow_size]; omega))
   have hz5 : w.heap.size + 1 + 1 + 1 + 1 < w5.heap.size := by omega
   clear keep b5 b4 r4 hV3 hR3 hK3 hX3 hH3 hb3 hz3 z4 z5 zd hS
   go_wp2_with fail
   go_roundw
   case rel =>
    refine ⟨m + 1, by omega, rfl, ?_, by (try show row (World.setRow _ _ _) _ = _); rw [row_setRow_other _ _ _ (by omega)]; exact hR5, by (try show row (World.setRow _ _ _) _ = _); rw [row_setRow_other _ _ _ (by omega)]; exact hK5, by (try show row (World.setRow _ _ _) _ = _); rw [row_setRow_other _ _ _ (by omega)]; exact hX5, by (try show row (World.setRow _ _ _) _ = _); rw [row_setRow_other _ _ _ (by omega)]; exact hH5, by simp; omega, Below.setRow hb5 (by omega) _⟩
    rw [upTo, HL.out, HV.out, mixF, getD_elem _ _ _ kk, getD_elem _ _ _ kx, HT.out, HU.out]
    rw [row_setRow_same (by rw [hV5]; simp) (by rw [hV5]; simp)]
    simp [u32s]
   case measure => simp [intOf]; omega
  ·
   obtain rfl : m = 64 := by omega
   rw [show ((64 : Nat) : Int) = 64 from rfl]
   have H1 := HL
   have l1 := hLl
   clear HL hLl hlt hm
   go_wp2_with fail
   go_loopw [77] (fun i wq => ∃ m : Nat, m ≤ 8 ∧ i = .int .i64 m ∧ row wq (w.heap.size + 1 + 1 + 1 + 1) = (u32s (upTo (addF z) m L)).toArray ∧ row wq (w.heap.size + 1 + 1 + 1) = (zeros 8 (.int .u32 0)).toArray ∧ row wq w.heap.size = (u32s z).toArray ∧ w.heap.size + 1 + 1 + 1 + 1 < wq.heap.size ∧ Below w.heap.size w wq) (fun i _ => 8 - (intOf i).toNat)
   case atStart =>
    refine ⟨0, by omega, rfl, ?_, hR, hH, hz, hbel⟩
    rw [upTo]; exact hV
   case round =>
    clear hR hK hX hH hz hbel hV
    obtain ⟨m, hm, rfl, hV, hR, hH, hz, hbel⟩ := hrel
    obtain ⟨M, hM⟩ : ∃ M, upTo (addF z) m L = M := ⟨_, rfl⟩
    have hMl : M.length = 8 := by rw [← hM, upTo_len (addF_length z), l1]
    rw [hM] at hV
    have HM := h_ hM
    clear hM
    by_cases hlt : m < 8
    ·
     have h1 : (m : Int) < 8 := by omega
     have k1 : m < M.length := by omega
     have k2 : m < z.length := by omega
     go_wp2_with fail
     go_region
     go_wp2_with fail
     go_roundw
     case rel =>
      have e : upTo (addF z) (m + 1) L = M.set m ((M[m] + z[m]) % 4294967296) := by
       rw [upTo, HM.out, addF, getD_elem _ _ _ k1, getD_elem _ _ _ k2]
      refine ⟨m + 1, by omega, rfl, ?_, by (try show row (World.setRow _ _ _) _ = _); rw [row_setRow_other _ _ _ (by omega)]; exact hR, by (try show row (World.setRow _ _ _) _ = _); rw [row_setRow_other _ _ _ (by omega)]; exact hH, by simp; omega, Below.drew (Below.setRow hbel (by omega) _)⟩
      rw [e]
      exact row_setRow_same (by rw [hV]; simp; omega) (by rw [hV]; simp)
     case measure => simp [intOf]; omega
    ·
     obtain rfl : m = 8 := by omega
     rw [show ((8 : Nat) : Int) = 8 from rfl]
     have e : M = mixL z x k := by rw [mixL, H1.out]; exact HM.out.symm
     rw [e] at hV hMl
     go_wp2_with fail
     have hfin := row_setRow_same (w := wr) (g := w.heap.size + 1 + 1 + 1) (c := (u32s (mixL z x k)).toArray) (by rw [hR]; simp) (by rw [hR]; simp [hMl])
     (try simp only [Exit.inBlock, Exit.then])
     refine bodyPost_ret (results_1 rfl (resOk_row rfl ?_)) rfl ?_
     ·
      rw [hfin]
      simp [hMl]
     refine ⟨by rw [hfin], ?_⟩
     exact Below.setRow hbel (by omega) _
end
section
open Go.RowKit
theorem Own.form {w : World} {B e : Nat} {v : Value} {l : List Value} (h : Own w B e v l) :
  ∃ p c, v = .slice p l.length c ∧ (0 < l.length → ∃ g s, p = some ⟨g, 0, none⟩ ∧ B ≤ g ∧ g < w.heap.size ∧ row w g = (l ++ s).toArray) := by
 by_cases h0 : l = []
 ·
  obtain ⟨hl, ⟨rfl, h1⟩ | ⟨g, cap, cur, rfl, h2⟩⟩ := h
  ·
   exact ⟨none, 0, by rw [h0]; rfl, fun h => by rw [h0] at h; simp at h⟩
  ·
   exact ⟨_, _, rfl, fun h => by rw [h0] at h; simp at h⟩
 ·
  obtain ⟨g, sp, hv, h1, h2, s, _, h3⟩ := h.cells h0
  exact ⟨_, _, hv, fun _ => ⟨g, s, rfl, h1, h2, h3⟩⟩
def pT (x : Nat) (l : List Nat) : Bool := l.all fun p => x % p != 0
def pF (i : Nat) (l : List Nat) : List Nat := if pT (i + 2) l then l ++ [i + 2] else l
def pL (m : Nat) : List Nat := upTo pF m []
theorem pL_zero : pL 0 = [] := rfl
theorem pL_succ (m : Nat) : pL (m + 1) = if pT (m + 2) (pL m) then pL m ++ [m + 2] else pL m := rfl
theorem pL_mem (m : Nat) : ∀ p ∈ pL m, 2 ≤ p ∧ p < m + 2 := by
 induction m with
 | zero => intro p hp; cases hp
 | succ m ih =>
  intro p hp
  rw [pL_succ] at hp
  split at hp
  ·
   rcases List.mem_append.1 hp with h | h
   ·
    have := ih p h; omega
   ·
    simp at h; omega
  ·
   have := ih p hp; omega
theorem pL_mono (m : Nat) : (pL m).length ≤ (pL (m + 1)).length := by
 rw [pL_succ]
 split
 ·
  simp
 ·
  exact Nat.le_refl _
theorem pL_monos (m k : Nat) : (pL m).length ≤ (pL (m + k)).length := by
 induction k with
 | zero => exact Nat.le_refl _
 | succ k ih => exact Nat.le_trans ih (pL_mono _)
theorem pL_len (m : Nat) : (pL m).length ≤ m := by
 induction m with
 | zero => exact Nat.le_refl _
 | succ m ih =>
  rw [pL_succ]
  split
  ·
   simp; omega
  ·
   omega
theorem bne_cast (X q : Nat) : ((X : Int) % (q : Int) != 0) = (X % q != 0) := by
 rw [Bool.eq_iff_iff]
 simp only [bne_iff_ne, ne_eq]
 rw [← Int.natCast_emod]
 omega
theorem pT_take (x : Nat) (l : List Nat) (j : Nat) (h : j < l.length) : pT x (l.take (j + 1)) = (pT x (l.take j) && (x % l[j] != 0)) := by
 unfold pT
 rw [List.take_succ_eq_append_getElem h, List.all_append]
 simp
attribute [local irreducible] pL pT upTo
theorem primes_any (N E : Nat) (w : World) (hN : N ≤ 100) (hE : E ≤ 1000) (h0 : ∀ m, m < E → (pL m).length < N) (h1 : (pL E).length = N) :
  Calls Tryz.prog 250 #[.int .i64 N] w fun e w' => ∃ v, e = .returned v ∧ Own w' w.heap.size 3 v (n64s (pL E)) ∧ Below w.heap.size w w' := by
 have H0 := h_ h0
 have H1 := h_ h1
 have jN : (N : Int) ≤ 100 := by omega
 have jN0 : ¬ (N : Int) < 0 := by omega
 have jN1 : ¬ (100 : Int) < (N : Int) := by omega
 clear h0 h1
 go_enter Tryz.func250, Tryz.ntmps250
 go_wp2_with fail
 go_loopw [3, 4] (fun v x wr => ∃ m : Nat, m ≤ E ∧ x = .int .i64 ((m + 2 : Nat) : Int) ∧ Own wr w.heap.size 3 v (n64s (pL m)) ∧ Below w.heap.size w wr) (fun _ x _ => E + 2 - (intOf x).toNat)
 case atStart => exact ⟨0, by omega, rfl, by rw [pL_zero]; exact Own.nil, Below.refl _ _⟩
 case round =>
  obtain ⟨m, hm, rfl, hown, hbel⟩ := hrel
  have hsz := hbel.size
  have hlen := pL_len m
  have hmem := pL_mem m
  have hN2 : (pL m).length = N ∨ m < E := by
   rcases Nat.lt_or_ge m E with h | h
   ·
    exact .inr h
   ·
    obtain rfl : m = E := by omega
    exact .inl H1.out
  have hsucc := h_ (pL_succ m)
  have hT0 : pT (m + 2) ((pL m).take 0) = true := by unfold pT; rfl
  have hTs := pT_take (m + 2) (pL m)
  have hTn : pT (m + 2) ((pL m).take (pL m).length) = pT (m + 2) (pL m) := by rw [List.take_length]
  have hE1 := h_ (show m = E ∨ m < E by omega)
  have H0m := h_ (fun h => H0.out m h)
  obtain ⟨l, hl⟩ : ∃ l, pL m = l := ⟨_, rfl⟩
  rw [hl] at hown hlen hmem hN2 hsucc hTs hTn H0m
  rw [hl] at hT0
  have HL := h_ hl
  clear hl
  obtain ⟨X, hX⟩ : ∃ X, m + 2 = X := ⟨_, rfl⟩
  rw [hX] at hmem hsucc hT0 hTs hTn ⊢
  have HX := h_ hX
  obtain ⟨p, c, rfl, hp⟩ := hown.form
  rw [n64s_length] at hp hown ⊢
  have hmI : (X : Int) ≤ 1002 := by omega
  have hlI : (l.length : Int) ≤ 1000 := by omega
  have HN2 := h_ hN2
  have HTs := h_ hTs
  have HTn := h_ hTn
  have Hm := h_ hmem
  clear hN2 hTs hTn hmem hX
  by_cases hlt : l.length < N
  ·
   have j1 : (l.length : Int) < N := by omega
   have hme : m < E := by
    rcases HN2.out with h | h
    ·
     omega
    ·
     exact h
   go_wp2_with fail
   go_loopw [5, 22] (fun b i wq => ∃ j : Nat, j ≤ l.length ∧ b = .bool (pT X (l.take j)) ∧ i = .int .i64 j ∧ wq = wr) (fun _ i _ => l.length - (intOf i).toNat)
   case atStart => exact ⟨0, by omega, by rw [hT0], rfl, rfl⟩
   case round =>
    obtain ⟨j, hj, rfl, rfl, rfl⟩ := hrel
    obtain ⟨b, hb⟩ : ∃ b, pT X (l.take j) = b := ⟨_, rfl⟩
    rw [hb]
    have HB := h_ hb
    clear hb
    by_cases hjl : j < l.length
    ·
     have j2 : (j : Int) < l.length := by omega
     obtain ⟨g, s, rfl, hg1, hg2, hr⟩ := hp (by omega)
     obtain ⟨q, hq⟩ : ∃ q, l[j] = q := ⟨_, rfl⟩
     have hq2 := Hm.out q (by rw [← hq]; exact List.getElem_mem _)
     have ux : j < l.length + s.length := by omega
     have tx : (n64s l ++ s)[j]'(by simp; omega) = .int .i64 (q : Int) := by rw [List.getElem_append_left (by simpa using hjl), n64s_get, hq]
     have hq0 : ¬ (q : Int) = 0 := by omega
     have HQ := h_ hq
     have hTj := HTs.out j hjl
     rw [HB.out] at hTj
     have e3 : ((X : Int) % (q : Int) != 0) = (X % l[j] != 0) := by rw [hq]; exact bne_cast X q
     have HTj := h_ hTj
     have E3 := h_ e3
     clear hq hTj e3
     cases b
     ·
      go_wp2_with fail
      go_roundw
      case rel => exact ⟨j + 1, by omega, by rw [HTj.out]; rfl, by push_cast; rfl, trivial⟩
      case measure => simp [intOf]; omega
     ·
      go_wp2_with fail
      go_roundw
      case rel => exact ⟨j + 1, by omega, by rw [HTj.out, E3.out]; rfl, by push_cast; rfl, trivial⟩
      case measure => simp [intOf]; omega
    ·
     have hjl2 : j = l.length := by omega
     have hbb : pT X l = b := by rw [← HTn.out, ← hjl2]; exact HB.out
     have j2 : ¬ (j : Int) < l.length := by omega
     have hX1 : IntKind.i64.wrap ((X : Int) + 1) = ((X + 1 : Nat) : Int) := wrapN _ _ (by omega) (by omega)
     have hnx : pL (m + 1) = if b then l ++ [X] else l := by rw [hsucc.out, hbb]
     have HNX := h_ hnx
     clear hnx hbb
     cases b
     ·
      go_wp2_with fail
      go_roundw
      case rel => exact ⟨m + 1, by omega, by have := HX.out; subst this; push_cast; rfl, by rw [HNX.out, if_neg (by decide)]; exact hown, hbel⟩
      case measure => have := HX.out; simp [intOf]; omega
     ·
      have hl1 : (n64s l).length + 1 ≤ 1000000 := by rw [n64s_length]; omega
      go_wp2_with (at_builtin; refine wpList_append1 rfl rfl inferInstance w.heap.size _ (n64s l) rfl hown _ rfl rfl hl1 hsz ?_)
      intro v' w2 o2 b2
      go_wp2_with fail
      go_roundw
      case rel => exact ⟨m + 1, by omega, by have := HX.out; subst this; push_cast; rfl, by rw [HNX.out]; simp only [if_true, n64s_append]; exact o2, hbel.trans b2⟩
      case measure => have := HX.out; simp [intOf]; omega
  ·
   have j1 : ¬ (l.length : Int) < N := by omega
   have hmE : m = E := by
    rcases hE1.out with h | h
    ·
     exact h
    ·
     exact absurd (H0m.out h) hlt
   go_wp2_with fail
   go_ret
   exact ⟨_, rfl, by rw [← hmE, HL.out]; exact hown, hbel⟩
end
section
open Go.RowKit
theorem eq_cast (x y : Nat) : ((x : Int) == (y : Int)) = (x == y) := by
 rw [Bool.eq_iff_iff]
 simp only [beq_iff_eq]
 omega
theorem eq_cast0 (x : Nat) : ((x : Int) == 0) = (x == 0) := eq_cast x 0
def less2 (n x : Nat) : Bool := decide (x * x / 18446744073709551616 < n) || (x * x / 18446744073709551616 == n && x * x % 18446744073709551616 == 0)
theorem cases3 (a n : Nat) (b : Bool) : (a < n ∧ ((a : Int) < n) ∧ (decide (a < n) || (a == n && b)) = true) ∨ (¬ a < n ∧ ¬ ((a : Int) < n) ∧ ((a : Int) == (n : Int)) = true ∧ a = n ∧ (decide (a < n) || (a == n && b)) = b) ∨ (¬ a < n ∧ ¬ ((a : Int) < n) ∧ ((a : Int) == (n : Int)) = false ∧ (decide (a < n) || (a == n && b)) = false) := by
 rcases Nat.lt_trichotomy a n with h | h | h
 ·
  exact .inl ⟨h, by omega, by simp [h]⟩
 ·
  refine .inr (.inl ⟨by omega, by omega, ?_, h, ?_⟩)
  ·
   rw [eq_cast]; simp [h]
  ·
   simp [h]
 ·
  refine .inr (.inr ⟨by omega, by omega, ?_, ?_⟩)
  ·
   rw [eq_cast]; simp; omega
  ·
   have h1 : ¬ a < n := by omega
   have h2 : (a == n) = false := by simp; omega
   simp [h1, h2]
theorem less2_any (n x A B : Nat) (w : World) (hx : x < 274877906944) (hn : n ≤ 1000) (hA : row w A = #[.int .i64 2]) (hB : row w B = #[.int .i64 n]) :
  Calls Tryz.prog 280 #[.int .u64 x, .pointer (some ⟨A, 0, none⟩), .pointer (some ⟨B, 0, none⟩)] w fun e w' => e = .returned (.bool (less2 n x)) ∧ w' = w := by
 have hmul := fun w => Tryz.bits_Mul64 x x (by omega) (by omega) w
 have jn : (n : Int) ≤ 1000 := by omega
 unfold less2
 obtain ⟨hi, hhi⟩ : ∃ p, x * x / 18446744073709551616 = p := ⟨_, rfl⟩
 obtain ⟨lo, hlo⟩ : ∃ p, x * x % 18446744073709551616 = p := ⟨_, rfl⟩
 simp only [hhi, hlo] at hmul ⊢
 have HM := h_ hmul
 clear hmul hhi hlo
 obtain ⟨b, hb⟩ : ∃ b, (lo == 0) = b := ⟨_, rfl⟩
 have hb' : ((lo : Int) == 0) = b := by rw [eq_cast0]; exact hb
 rw [hb]
 clear hb
 have hc := cases3 hi n b
 obtain ⟨R, hR⟩ : ∃ R, (decide (hi < n) || (hi == n && b)) = R := ⟨_, rfl⟩
 rw [hR] at hc ⊢
 have HC := h_ hc
 clear hR hc
 go_enter Tryz.func280, Tryz.ntmps280
 go_wp2_with fail
 (with_reducible refine (HM.out _).mono ?_)
 rintro e w1 ⟨rfl, rfl⟩
 clear HM
 rcases HC.out with ⟨c1, c2, rfl⟩ | ⟨c1, c2, c3, c4, rfl⟩ | ⟨c1, c2, c3, rfl⟩
 ·
  clear HC
  go_wp2_with fail
  go_ret
  exact ⟨rfl, rfl⟩
 ·
  clear HC c4
  cases R
  ·
   go_wp2_with fail
   go_ret
   exact ⟨rfl, rfl⟩
  ·
   go_wp2_with fail
   go_ret
   exact ⟨rfl, rfl⟩
 ·
  clear HC
  go_wp2_with fail
  go_ret
  exact ⟨rfl, rfl⟩
theorem modc (c d t : Nat) (h : (c + d) % 18446744073709551616 = t) : ((c : Int) + (d : Int)) % 18446744073709551616 = (t : Int) := by omega
theorem cases3I (a n : Int) (b : Bool) : (a < n ∧ (decide (a < n) || (a == n && b)) = true) ∨ (¬ a < n ∧ a = n ∧ (a == n) = true ∧ (decide (a < n) || (a == n && b)) = b) ∨ (¬ a < n ∧ (a == n) = false ∧ (decide (a < n) || (a == n && b)) = false) := by
 rcases Int.lt_trichotomy a n with h | h | h
 ·
  exact .inl ⟨h, by simp [h]⟩
 ·
  exact .inr (.inl ⟨by omega, h, by simp [h], by simp [h]⟩)
 ·
  refine .inr (.inr ⟨by omega, by simp; omega, ?_⟩)
  have h1 : ¬ a < n := by omega
  have h2 : (a == n) = false := by simp; omega
  simp [h1, h2]
def whole3 (top mid : Nat) : Int := bits .or .u64 (IntKind.u64.wrap ((top : Int) * 4294967296)) ((mid : Int) / 4294967296)
def less3 (n x : Nat) : Bool :=
 let hi := x * x / 18446744073709551616
 let lo := x * x % 18446744073709551616
 let s := lo * x / 18446744073709551616 + hi * x % 18446744073709551616
 let top := (hi * x / 18446744073709551616 + s / 18446744073709551616) % 18446744073709551616
 let mid := s % 18446744073709551616
 decide (whole3 top mid < (n : Int)) || (whole3 top mid == (n : Int) && ((IntKind.u64.wrap ((mid : Int) * 4294967296) == 0) && (lo * x % 18446744073709551616 == 0)))
theorem less3_any (n x A B : Nat) (w : World) (hx : x < 274877906944) (hn : n ≤ 1000) (hA : row w A = #[.int .i64 3]) (hB : row w B = #[.int .i64 n]) :
  Calls Tryz.prog 280 #[.int .u64 x, .pointer (some ⟨A, 0, none⟩), .pointer (some ⟨B, 0, none⟩)] w fun e w' => e = .returned (.bool (less3 n x)) ∧ w' = w := by
 have jn : (n : Int) ≤ 1000 := by omega
 have m1 := fun w => Tryz.bits_Mul64 x x (by omega) (by omega) w
 obtain ⟨hi, hhi⟩ : ∃ p, x * x / 18446744073709551616 = p := ⟨_, rfl⟩
 obtain ⟨lo, hlo⟩ : ∃ p, x * x % 18446744073709551616 = p := ⟨_, rfl⟩
 have lhi : hi < 18446744073709551616 := by
  rw [← hhi]
  have := Nat.mul_lt_mul'' hx hx
  omega
 have llo : lo < 18446744073709551616 := by rw [← hlo]; exact Nat.mod_lt _ (by decide)
 have m2 := fun w => Tryz.bits_Mul64 lo x llo (by omega) w
 have m3 := fun w => Tryz.bits_Mul64 hi x lhi (by omega) w
 unfold less3
 simp only [hhi, hlo] at m1 ⊢
 obtain ⟨a, ha⟩ : ∃ p, lo * x / 18446744073709551616 = p := ⟨_, rfl⟩
 obtain ⟨b, hb⟩ : ∃ p, lo * x % 18446744073709551616 = p := ⟨_, rfl⟩
 obtain ⟨c, hc⟩ : ∃ p, hi * x / 18446744073709551616 = p := ⟨_, rfl⟩
 obtain ⟨d, hd⟩ : ∃ p, hi * x % 18446744073709551616 = p := ⟨_, rfl⟩
 simp only [ha, hb] at m2 ⊢
 simp only [hc, hd] at m3 ⊢
 have m4 := fun w => add64_run0 a d w
 obtain ⟨mid, hmid⟩ : ∃ p, (a + d) % 18446744073709551616 = p := ⟨_, rfl⟩
 obtain ⟨car, hcar⟩ : ∃ p, (a + d) / 18446744073709551616 = p := ⟨_, rfl⟩
 simp only [hmid, hcar] at m4 ⊢
 obtain ⟨top, htop⟩ : ∃ p, (c + car) % 18446744073709551616 = p := ⟨_, rfl⟩
 simp only [htop] at ⊢
 have hT : IntKind.u64.wrap ((c : Int) + (car : Int)) = (top : Int) := by rw [IntKind.wrap_u64]; exact modc _ _ _ htop
 have M1 := h_ m1
 have M2 := h_ m2
 have M3 := h_ m3
 clear m1 m2 m3 hhi hlo ha hb hc hd hmid hcar htop lhi llo
 unfold whole3
 obtain ⟨b0, hb0⟩ : ∃ q, (b == 0) = q := ⟨_, rfl⟩
 have hb0' : ((b : Int) == 0) = b0 := by rw [eq_cast0]; exact hb0
 obtain ⟨b1, hb1⟩ : ∃ q, (IntKind.u64.wrap ((mid : Int) * 4294967296) == 0) = q := ⟨_, rfl⟩
 rw [hb0, hb1]
 clear hb0
 obtain ⟨W, hW⟩ : ∃ W, bits .or .u64 (IntKind.u64.wrap ((top : Int) * 4294967296)) ((mid : Int) / 4294967296) = W := ⟨_, rfl⟩
 rw [hW]
 have hcs := cases3I W n (b1 && b0)
 obtain ⟨R, hR⟩ : ∃ R, (decide (W < (n : Int)) || (W == (n : Int) && (b1 && b0))) = R := ⟨_, rfl⟩
 rw [hR] at hcs ⊢
 have HC := h_ hcs
 clear hR hcs
 go_enter Tryz.func280, Tryz.ntmps280
 go_wp2_with fail
 (with_reducible refine (M1.out _).mono ?_)
 rintro e w1 ⟨rfl, rfl⟩
 clear M1
 go_wp2_with fail
 (with_reducible refine (M2.out _).mono ?_)
 rintro e w1 ⟨rfl, rfl⟩
 clear M2
 go_wp2_with fail
 (with_reducible refine (M3.out _).mono ?_)
 rintro e w1 ⟨rfl, rfl⟩
 clear M3
 rcases HC.out with ⟨c1, rfl⟩ | ⟨c1, c4, c3, rfl⟩ | ⟨c1, c3, rfl⟩
 ·
  clear HC
  go_wp2_with fail
  go_ret
  exact ⟨rfl, rfl⟩
 ·
  clear HC c4
  have c5 : decide (W < (n : Int)) = false := decide_eq_false (Int.not_lt.2 c1)
  cases b1
  ·
   go_wp2_with fail
   go_ret
   exact ⟨rfl, rfl⟩
  ·
   cases b0
   ·
    go_wp2_with fail
    go_ret
    exact ⟨rfl, rfl⟩
   ·
    go_wp2_with fail
    go_ret
    exact ⟨rfl, rfl⟩
 ·
  clear HC
  have c5 : decide (W < (n : Int)) = false := decide_eq_false (Int.not_lt.2 c1)
  go_wp2_with fail
  go_ret
  exact ⟨rfl, rfl⟩
end
section
open Go.RowKit
theorem shaless_any (power n : Int) (w : World) :
  Calls Tryz.prog 273 #[.int .i64 power, .int .i64 n] w fun e w' => e = .returned (.func (.func 280) #[] #[.pointer (some ⟨w.heap.size, 0, none⟩), .pointer (some ⟨w.heap.size + 1, 0, none⟩)]) ∧ row w' w.heap.size = #[.int .i64 power] ∧ row w' (w.heap.size + 1) = #[.int .i64 n] ∧ w.heap.size + 1 < w'.heap.size ∧ Below w.heap.size w w' := by
 go_enter Tryz.func273, Tryz.ntmps273
 go_wp2_with fail
 go_ret
 exact ⟨rfl, by simp [go_sem], by simp [go_sem], by simp, blw_⟩
def rS (f : Nat → Bool) (i x : Nat) : Nat := if f (x + 2 ^ (37 - i)) then x + 2 ^ (37 - i) else x
def rX (f : Nat → Bool) (i : Nat) : Nat := upTo (rS f) i 0
theorem rX_zero (f : Nat → Bool) : rX f 0 = 0 := rfl
theorem rX_succ (f : Nat → Bool) (i : Nat) : rX f (i + 1) = if f (rX f i + 2 ^ (37 - i)) then rX f i + 2 ^ (37 - i) else rX f i := rfl
theorem rX_le (f : Nat → Bool) (i : Nat) (h : i ≤ 38) : rX f i + 2 ^ (38 - i) ≤ 274877906944 ∧ rX f i % 2 ^ (38 - i) = 0 := by
 induction i with
 | zero => rw [rX_zero]; exact ⟨by decide, by decide⟩
 | succ i ih =>
  obtain ⟨h1, h2⟩ := ih (by omega)
  have e : 38 - i = (37 - i) + 1 := by omega
  rw [e, Nat.pow_succ] at h1 h2
  have e2 : 38 - (i + 1) = 37 - i := by omega
  rw [rX_succ, e2]
  obtain ⟨p, hp⟩ : ∃ p, 2 ^ (37 - i) = p := ⟨_, rfl⟩
  rw [hp] at h1 h2 ⊢
  have h3 : rX f i % p = 0 := by
   have hd : p ∣ rX f i := Nat.dvd_trans (Nat.dvd_mul_right p 2) (Nat.dvd_of_mod_eq_zero h2)
   exact Nat.mod_eq_zero_of_dvd hd
  split
  ·
   exact ⟨by omega, by rw [Nat.add_mod, h3]; simp⟩
  ·
   exact ⟨by omega, h3⟩
theorem wraps_u64 (n : Int) (h₀ : 0 ≤ n) (h₁ : n < 2 ^ 63) : IntKind.u64.wrap n = n := by rw [IntKind.wrap_u64]; omega
theorem u32_cast (x : Nat) : IntKind.u32.wrap (x : Int) = ((x % 4294967296 : Nat) : Int) := by rw [IntKind.wrap_u32]; omega
theorem or_bit (x c : Nat) (h1 : x + 2 ^ c * 2 ≤ 274877906944) (h2 : x % (2 ^ c * 2) = 0) : bits .or .u64 (x : Int) (IntKind.u64.wrap (2 ^ c)) = ((x + 2 ^ c : Nat) : Int) := by
 obtain ⟨p, hp2⟩ : ∃ p, 2 ^ c = p := ⟨_, rfl⟩
 have hpos : 0 < p := by rw [← hp2]; exact Nat.two_pow_pos c
 have hp : (2 : Int) ^ c = (p : Int) := by rw [← hp2]; push_cast; rfl
 have e2 : (2 : Int) ^ (c + 1) = ((p * 2 : Nat) : Int) := by rw [Int.pow_succ, hp]; push_cast; rfl
 rw [hp2] at h1 h2 ⊢
 have h3 : (x : Int) % 2 ^ (c + 1) = 0 := by rw [e2]; exact_mod_cast h2
 have h4 : (p : Int) < 2 ^ (c + 1) := by rw [e2]; push_cast; omega
 clear h2 e2
 have hw : IntKind.u64.wrap (p : Int) = (p : Int) := wraps_u64 _ (by omega) (by omega)
 rw [hp, hw, bits_join .u64 63 (by decide) wraps_u64 (c + 1) (x : Int) (p : Int) (by omega) h3 (by omega) (by omega) h4 (by omega)]
 push_cast
 rfl
def rootI (f : Nat → Bool) : Int := ((rX f 38 % 4294967296 : Nat) : Int)
theorem root2_any (n : Nat) (w : World) (hn : n ≤ 1000) :
  Calls Tryz.prog 251 #[.int .i64 n, .int .i64 2] w fun e w' => e = .returned (.int .u32 (rootI (less2 n))) ∧ Below w.heap.size w w' := by
 have jn : (n : Int) ≤ 1000 := by omega
 have jn0 : ¬ (n : Int) < 0 := by omega
 have jn1 : ¬ (1000 : Int) < (n : Int) := by omega
 go_enter Tryz.func251, Tryz.ntmps251
 go_wp2_with fail
 refine (shaless_any _ _ _).mono ?_
 rintro e w1 ⟨rfl, rA, rB, z1, b1⟩
 go_wp2_with fail
 go_loopw [6, 7] (fun x b wr => ∃ i : Nat, i ≤ 38 ∧ x = .int .u64 (rX (less2 n) i) ∧ b = .int .i64 (37 - (i : Int)) ∧ wr = w1) (fun _ b _ => (intOf b + 1).toNat)
 case atStart => exact ⟨0, by omega, by rw [rX_zero]; rfl, rfl, rfl⟩
 case round =>
  obtain ⟨i, hi, rfl, rfl, rfl⟩ := hrel
  obtain ⟨h1, h2⟩ := rX_le (less2 n) i hi
  have hs := h_ (rX_succ (less2 n) i)
  obtain ⟨x, hx⟩ : ∃ x, rX (less2 n) i = x := ⟨_, rfl⟩
  rw [hx] at h1 h2 hs ⊢
  have HX := h_ hx
  clear hx
  by_cases hlt : i < 38
  ·
   obtain ⟨c, hc⟩ : ∃ c, 37 - i = c := ⟨_, rfl⟩
   have e1 : (37 : Int) - (i : Int) = (c : Int) := by omega
   rw [hc] at hs
   rw [show 38 - i = c + 1 by omega, Nat.pow_succ] at h1 h2
   have hc1 : (c : Int) < 38 := by omega
   have e2 := or_bit x c h1 h2
   obtain ⟨y, hy⟩ : ∃ y, x + 2 ^ c = y := ⟨_, rfl⟩
   rw [hy] at e2 hs
   have hyb : y < 274877906944 := by have := Nat.two_pow_pos c; omega
   have hL := h_ (less2_any n y w.heap.size (w.heap.size + 1) wr hyb hn rA rB)
   obtain ⟨b, hb⟩ : ∃ b, less2 n y = b := ⟨_, rfl⟩
   rw [hb] at hL hs
   have HB := h_ hb
   have hdec : IntKind.i64.wrap ((c : Int) - 1) = 37 - ((i + 1 : Nat) : Int) := by rw [IntKind.wrap_i64]; omega
   have HD := h_ hdec
   have hcI : (37 : Int) - ((i + 1 : Nat) : Int) = (c : Int) - 1 := by omega
   have HS := h_ hs
   have HCI := h_ hcI
   rw [e1]
   clear hb hs h1 h2 hy hdec hcI hc
   go_wp2_with fail
   (with_reducible refine (hL.out).mono ?_)
   rintro e w2 ⟨rfl, rfl⟩
   clear hL
   cases b
   ·
    go_wp2_with fail
    go_roundw
    case rel => exact ⟨i + 1, by omega, by rw [HS.out]; rfl, by rw [HCI.out], trivial⟩
    case measure => simp [intOf]
   ·
    go_wp2_with fail
    go_roundw
    case rel => exact ⟨i + 1, by omega, by rw [HS.out]; rfl, by rw [HCI.out], trivial⟩
    case measure => simp [intOf]
  ·
   obtain rfl : i = 38 := by omega
   rw [show (37 : Int) - ((38 : Nat) : Int) = -1 by decide]
   have HR : rootI (less2 n) = ((x % 4294967296 : Nat) : Int) := by rw [rootI, HX.out]
   have HR2 : IntKind.u32.wrap (x : Int) = rootI (less2 n) := by rw [HR]; exact u32_cast x
   clear HR h1 h2 hs
   go_wp2_with fail
   go_ret
   exact ⟨rfl, b1⟩
theorem root3_any (n : Nat) (w : World) (hn : n ≤ 1000) :
  Calls Tryz.prog 251 #[.int .i64 n, .int .i64 3] w fun e w' => e = .returned (.int .u32 (rootI (less3 n))) ∧ Below w.heap.size w w' := by
 have jn : (n : Int) ≤ 1000 := by omega
 have jn0 : ¬ (n : Int) < 0 := by omega
 have jn1 : ¬ (1000 : Int) < (n : Int) := by omega
 go_enter Tryz.func251, Tryz.ntmps251
 go_wp2_with fail
 refine (shaless_any _ _ _).mono ?_
 rintro e w1 ⟨rfl, rA, rB, z1, b1⟩
 go_wp2_with fail
 go_loopw [6, 7] (fun x b wr => ∃ i : Nat, i ≤ 38 ∧ x = .int .u64 (rX (less3 n) i) ∧ b = .int .i64 (37 - (i : Int)) ∧ wr = w1) (fun _ b _ => (intOf b + 1).toNat)
 case atStart => exact ⟨0, by omega, by rw [rX_zero]; rfl, rfl, rfl⟩
 case round =>
  obtain ⟨i, hi, rfl, rfl, rfl⟩ := hrel
  obtain ⟨h1, h2⟩ := rX_le (less3 n) i hi
  have hs := h_ (rX_succ (less3 n) i)
  obtain ⟨x, hx⟩ : ∃ x, rX (less3 n) i = x := ⟨_, rfl⟩
  rw [hx] at h1 h2 hs ⊢
  have HX := h_ hx
  clear hx
  by_cases hlt : i < 38
  ·
   obtain ⟨c, hc⟩ : ∃ c, 37 - i = c := ⟨_, rfl⟩
   have e1 : (37 : Int) - (i : Int) = (c : Int) := by omega
   rw [hc] at hs
   rw [show 38 - i = c + 1 by omega, Nat.pow_succ] at h1 h2
   have hc1 : (c : Int) < 38 := by omega
   have e2 := or_bit x c h1 h2
   obtain ⟨y, hy⟩ : ∃ y, x + 2 ^ c = y := ⟨_, rfl⟩
   rw [hy] at e2 hs
   have hyb : y < 274877906944 := by have := Nat.two_pow_pos c; omega
   have hL := h_ (less3_any n y w.heap.size (w.heap.size + 1) wr hyb hn rA rB)
   obtain ⟨b, hb⟩ : ∃ b, less3 n y = b := ⟨_, rfl⟩
   rw [hb] at hL hs
   have HB := h_ hb
   have hdec : IntKind.i64.wrap ((c : Int) - 1) = 37 - ((i + 1 : Nat) : Int) := by rw [IntKind.wrap_i64]; omega
   have HD := h_ hdec
   have hcI : (37 : Int) - ((i + 1 : Nat) : Int) = (c : Int) - 1 := by omega
   have HS := h_ hs
   have HCI := h_ hcI
   rw [e1]
   clear hb hs h1 h2 hy hdec hcI hc
   go_wp2_with fail
   (with_reducible refine (hL.out).mono ?_)
   rintro e w2 ⟨rfl, rfl⟩
   clear hL
   cases b
   ·
    go_wp2_with fail
    go_roundw
    case rel => exact ⟨i + 1, by omega, by rw [HS.out]; rfl, by rw [HCI.out], trivial⟩
    case measure => simp [intOf]
   ·
    go_wp2_with fail
    go_roundw
    case rel => exact ⟨i + 1, by omega, by rw [HS.out]; rfl, by rw [HCI.out], trivial⟩
    case measure => simp [intOf]
  ·
   obtain rfl : i = 38 := by omega
   rw [show (37 : Int) - ((38 : Nat) : Int) = -1 by decide]
   have HR : rootI (less3 n) = ((x % 4294967296 : Nat) : Int) := by rw [rootI, HX.out]
   have HR2 : IntKind.u32.wrap (x : Int) = rootI (less3 n) := by rw [HR]; exact u32_cast x
   clear HR h1 h2 hs
   go_wp2_with fail
   go_ret
   exact ⟨rfl, b1⟩
end
section
open Go.RowKit
def rtF (r : Nat → Int) (ps : List Nat) (i : Nat) (l : List Int) : List Int := l.set i (r (ps.getD i 0))
theorem rtF_length (r : Nat → Int) (ps : List Nat) (i : Nat) (l : List Int) : (rtF r ps i l).length = l.length := by simp [rtF]
theorem shconstants_len : (pL 310).length = 64 := by decide +kernel
theorem shconstants_low (m : Nat) (h : m < 310) : (pL m).length < 64 := by
 have h1 := pL_monos m (309 - m)
 rw [show m + (309 - m) = 309 by omega] at h1
 have h2 : (pL 309).length < 64 := by decide +kernel
 omega
def shconstantsL : List Int := upTo (rtF (fun p => rootI (less3 p)) (pL 310)) 64 (List.replicate 64 0)
theorem shconstantsL_length : shconstantsL.length = 64 := by rw [shconstantsL, upTo_len (rtF_length _ _)]; simp
theorem shconstants_any (w : World) :
  Calls Tryz.prog 218 #[] w fun e w' => e = .returned (.agg (u32s shconstantsL).toArray) ∧ Below w.heap.size w w' := by
 have HP := h_ (fun w => primes_any 64 310 w (by omega) (by omega) shconstants_low shconstants_len)
 have hlen := shconstants_len
 have hmem := pL_mem 310
 have hkl := shconstantsL_length
 obtain ⟨K, hK⟩ : ∃ K, shconstantsL = K := ⟨_, rfl⟩
 have hK2 : upTo (rtF (fun p => rootI (less3 p)) (pL 310)) 64 (List.replicate 64 0) = K := by rw [← hK]; rfl
 rw [hK] at hkl ⊢
 obtain ⟨ps, hps⟩ : ∃ ps, pL 310 = ps := ⟨_, rfl⟩
 rw [hps] at HP hlen hmem hK2
 obtain ⟨r, hr⟩ : ∃ r : Nat → Int, (fun p => rootI (less3 p)) = r := ⟨_, rfl⟩
 have hroot : ∀ (p : Nat) (w : World), p ≤ 1000 → Calls Tryz.prog 251 #[.int .i64 p, .int .i64 3] w fun e w' => e = .returned (.int .u32 (r p)) ∧ Below w.heap.size w w' := fun p w hp => by
  rw [← hr]
  exact root3_any p w hp
 rw [hr] at hK2
 have HK := h_ hK2
 have HR := h_ hroot
 have HM := h_ hmem
 clear hr hps hK hK2 hroot hmem
 go_enter Tryz.func218, Tryz.ntmps218
 go_wp2_with fail
 refine (HP.out _).mono ?_
 rintro e w1 ⟨v, rfl, own, b1⟩
 have rV1 : row w1 (w.heap.size + 1) = (zeros 64 (.int .u32 0)).toArray := by rw [row_below b1 (by simp)]; simp [go_sem]
 have rR1 : row w1 w.heap.size = (zeros 64 (.int .u32 0)).toArray := by rw [row_below b1 (by simp; omega)]; simp [go_sem]
 have hz1 : w.heap.size + 1 < w1.heap.size := by have := b1.size; simp at this; omega
 replace b1 := below_of b1 (show Below (w).heap.size w _ from by (repeat (first | exact Below.refl _ _ | refine Below.al ?_ _ | refine Below.drew ?_ | refine Below.sr ?_ _ | refine Below.sc ?_ _))) (by first | (simp; done) | (simp; omega) | omega)
 obtain ⟨q, c, rfl, hq⟩ := own.form
 rw [n64s_length, hlen] at hq ⊢
 obtain ⟨g, s, rfl, hg1, hg2, hr⟩ := hq (by omega)
 have hgne : w.heap.size + 1 < g := by simp at hg1; omega
 clear hq own HP
 go_wp2_with fail
 go_loopw [6] (fun i wr => ∃ m : Nat, m ≤ 64 ∧ i = .int .i64 m ∧ row wr (w.heap.size + 1) = (u32s (upTo (rtF r ps) m (List.replicate 64 0))).toArray ∧ row wr w.heap.size = (zeros 64 (.int .u32 0)).toArray ∧ row wr g = (n64s ps ++ s).toArray ∧ w1.heap.size ≤ wr.heap.size ∧ Below w.heap.size w wr) (fun i _ => 64 - (intOf i).toNat)
 case atStart =>
  refine ⟨0, by omega, rfl, ?_, rR1, hr, Nat.le_refl _, b1⟩
  rw [upTo, u32s_zeros]
  exact rV1
 case round =>
  clear rV1 rR1 hr b1
  obtain ⟨m, hm, rfl, hV, hR, hr, hz, hbel⟩ := hrel
  obtain ⟨L, hL⟩ : ∃ L, upTo (rtF r ps) m (List.replicate 64 0) = L := ⟨_, rfl⟩
  have hLl : L.length = 64 := by rw [← hL, upTo_len (rtF_length _ _)]; simp
  rw [hL] at hV
  have HL := h_ hL
  clear hL
  by_cases hlt : m < 64
  ·
   have h1 : (m : Int) < 64 := by omega
   have h3 : m < L.length := by omega
   have h4 : m < ps.length := by omega
   obtain ⟨x, hx⟩ : ∃ x, ps[m] = x := ⟨_, rfl⟩
   have ux : m < ps.length + s.length := by omega
   have ux2 : m < 64 + s.length := by omega
   have tx : (n64s ps ++ s)[m]'(by simp; omega) = .int .i64 (x : Int) := by rw [List.getElem_append_left (by simpa using h4), n64s_get, hx]
   have hx2 := HM.out x (by rw [← hx]; exact List.getElem_mem _)
   have HX := h_ (show ps.getD m 0 = x by rw [getD_at _ _ h4]; exact hx)
   have hC := h_ (fun w => HR.out x w (by omega))
   clear hx hx2
   go_wp2_with fail
   refine (hC.out _).mono ?_
   rintro e w2 ⟨rfl, b2⟩
   have z2 := b2.size
   have hV2 := (row_below b2 (by omega)).trans hV
   have hR2 := (row_below b2 (by omega)).trans hR
   have hr2 := (row_below b2 (by omega)).trans hr
   have hb2 : Below w.heap.size w w2 := Below.trans hbel (b2.mono (by omega))
   clear b2 hC
   go_wp2_with fail
   go_roundw
   case rel =>
    refine ⟨m + 1, by omega, rfl, ?_, by (try show row (World.setRow _ _ _) _ = _); rw [row_setRow_other _ _ _ (by omega)]; exact hR2, by (try show row (World.setRow _ _ _) _ = _); rw [row_setRow_other _ _ _ (by omega)]; exact hr2, by simp; omega, Below.setRow hb2 (by omega) _⟩
    rw [upTo, HL.out, rtF, HX.out]
    exact row_setRow_same (by rw [hV2]; simp; omega) (by rw [hV2]; simp)
   case measure => simp [intOf]; omega
  ·
   obtain rfl : m = 64 := by omega
   rw [show ((64 : Nat) : Int) = 64 from rfl]
   have e : L = K := by rw [← HL.out]; exact HK.out
   rw [e] at hLl hV
   go_wp2_with fail
   have hfin := row_setRow_same (w := wr) (g := w.heap.size) (c := (u32s K).toArray) (by rw [hR]; simp) (by rw [hR]; simp [hLl])
   (try simp only [Exit.inBlock, Exit.then])
   refine bodyPost_ret (results_1 rfl (resOk_row rfl ?_)) rfl ?_
   ·
    rw [hfin]
    simp [hLl]
   refine ⟨by rw [hfin], ?_⟩
   exact Below.setRow hbel (by omega) _
theorem shfirst_len : (pL 18).length = 8 := by decide +kernel
theorem shfirst_low (m : Nat) (h : m < 18) : (pL m).length < 8 := by
 have h1 := pL_monos m (17 - m)
 rw [show m + (17 - m) = 17 by omega] at h1
 have h2 : (pL 17).length < 8 := by decide +kernel
 omega
def shfirstL : List Int := upTo (rtF (fun p => rootI (less2 p)) (pL 18)) 8 (List.replicate 8 0)
theorem shfirstL_length : shfirstL.length = 8 := by rw [shfirstL, upTo_len (rtF_length _ _)]; simp
theorem shfirst_any (w : World) :
  Calls Tryz.prog 219 #[] w fun e w' => e = .returned (.agg (u32s shfirstL).toArray) ∧ Below w.heap.size w w' := by
 have HP := h_ (fun w => primes_any 8 18 w (by omega) (by omega) shfirst_low shfirst_len)
 have hlen := shfirst_len
 have hmem := pL_mem 18
 have hkl := shfirstL_length
 obtain ⟨K, hK⟩ : ∃ K, shfirstL = K := ⟨_, rfl⟩
 have hK2 : upTo (rtF (fun p => rootI (less2 p)) (pL 18)) 8 (List.replicate 8 0) = K := by rw [← hK]; rfl
 rw [hK] at hkl ⊢
 obtain ⟨ps, hps⟩ : ∃ ps, pL 18 = ps := ⟨_, rfl⟩
 rw [hps] at HP hlen hmem hK2
 obtain ⟨r, hr⟩ : ∃ r : Nat → Int, (fun p => rootI (less2 p)) = r := ⟨_, rfl⟩
 have hroot : ∀ (p : Nat) (w : World), p ≤ 1000 → Calls Tryz.prog 251 #[.int .i64 p, .int .i64 2] w fun e w' => e = .returned (.int .u32 (r p)) ∧ Below w.heap.size w w' := fun p w hp => by
  rw [← hr]
  exact root2_any p w hp
 rw [hr] at hK2
 have HK := h_ hK2
 have HR := h_ hroot
 have HM := h_ hmem
 clear hr hps hK hK2 hroot hmem
 go_enter Tryz.func219, Tryz.ntmps219
 go_wp2_with fail
 refine (HP.out _).mono ?_
 rintro e w1 ⟨v, rfl, own, b1⟩
 have rV1 : row w1 (w.heap.size + 1) = (zeros 8 (.int .u32 0)).toArray := by rw [row_below b1 (by simp)]; simp [go_sem]
 have rR1 : row w1 w.heap.size = (zeros 8 (.int .u32 0)).toArray := by rw [row_below b1 (by simp; omega)]; simp [go_sem]
 have hz1 : w.heap.size + 1 < w1.heap.size := by have := b1.size; simp at this; omega
 replace b1 := below_of b1 (show Below (w).heap.size w _ from by (repeat (first | exact Below.refl _ _ | refine Below.al ?_ _ | refine Below.drew ?_ | refine Below.sr ?_ _ | refine Below.sc ?_ _))) (by first | (simp; done) | (simp; omega) | omega)
 obtain ⟨q, c, rfl, hq⟩ := own.form
 rw [n64s_length, hlen] at hq ⊢
 obtain ⟨g, s, rfl, hg1, hg2, hr⟩ := hq (by omega)
 have hgne : w.heap.size + 1 < g := by simp at hg1; omega
 clear hq own HP
 go_wp2_with fail
 go_loopw [6] (fun i wr => ∃ m : Nat, m ≤ 8 ∧ i = .int .i64 m ∧ row wr (w.heap.size + 1) = (u32s (upTo (rtF r ps) m (List.replicate 8 0))).toArray ∧ row wr w.heap.size = (zeros 8 (.int .u32 0)).toArray ∧ row wr g = (n64s ps ++ s).toArray ∧ w1.heap.size ≤ wr.heap.size ∧ Below w.heap.size w wr) (fun i _ => 8 - (intOf i).toNat)
 case atStart =>
  refine ⟨0, by omega, rfl, ?_, rR1, hr, Nat.le_refl _, b1⟩
  rw [upTo, u32s_zeros]
  exact rV1
 case round =>
  clear rV1 rR1 hr b1
  obtain ⟨m, hm, rfl, hV, hR, hr, hz, hbel⟩ := hrel
  obtain ⟨L, hL⟩ : ∃ L, upTo (rtF r ps) m (List.replicate 8 0) = L := ⟨_, rfl⟩
  have hLl : L.length = 8 := by rw [← hL, upTo_len (rtF_length _ _)]; simp
  rw [hL] at hV
  have HL := h_ hL
  clear hL
  by_cases hlt : m < 8
  ·
   have h1 : (m : Int) < 8 := by omega
   have h3 : m < L.length := by omega
   have h4 : m < ps.length := by omega
   obtain ⟨x, hx⟩ : ∃ x, ps[m] = x := ⟨_, rfl⟩
   have ux : m < ps.length + s.length := by omega
   have ux2 : m < 8 + s.length := by omega
   have tx : (n64s ps ++ s)[m]'(by simp; omega) = .int .i64 (x : Int) := by rw [List.getElem_append_left (by simpa using h4), n64s_get, hx]
   have hx2 := HM.out x (by rw [← hx]; exact List.getElem_mem _)
   have HX := h_ (show ps.getD m 0 = x by rw [getD_at _ _ h4]; exact hx)
   have hC := h_ (fun w => HR.out x w (by omega))
   clear hx hx2
   go_wp2_with fail
   refine (hC.out _).mono ?_
   rintro e w2 ⟨rfl, b2⟩
   have z2 := b2.size
   have hV2 := (row_below b2 (by omega)).trans hV
   have hR2 := (row_below b2 (by omega)).trans hR
   have hr2 := (row_below b2 (by omega)).trans hr
   have hb2 : Below w.heap.size w w2 := Below.trans hbel (b2.mono (by omega))
   clear b2 hC
   go_wp2_with fail
   go_roundw
   case rel =>
    refine ⟨m + 1, by omega, rfl, ?_, by (try show row (World.setRow _ _ _) _ = _); rw [row_setRow_other _ _ _ (by omega)]; exact hR2, by (try show row (World.setRow _ _ _) _ = _); rw [row_setRow_other _ _ _ (by omega)]; exact hr2, by simp; omega, Below.setRow hb2 (by omega) _⟩
    rw [upTo, HL.out, rtF, HX.out]
    exact row_setRow_same (by rw [hV2]; simp; omega) (by rw [hV2]; simp)
   case measure => simp [intOf]; omega
  ·
   obtain rfl : m = 8 := by omega
   rw [show ((8 : Nat) : Int) = 8 from rfl]
   have e : L = K := by rw [← HL.out]; exact HK.out
   rw [e] at hLl hV
   go_wp2_with fail
   have hfin := row_setRow_same (w := wr) (g := w.heap.size) (c := (u32s K).toArray) (by rw [hR]; simp) (by rw [hR]; simp [hLl])
   (try simp only [Exit.inBlock, Exit.then])
   refine bodyPost_ret (results_1 rfl (resOk_row rfl ?_)) rfl ?_
   ·
    rw [hfin]
    simp [hLl]
   refine ⟨by rw [hfin], ?_⟩
   exact Below.setRow hbel (by omega) _
end
end Go.Proofs.YtcebllbikmgjpaaGreat
