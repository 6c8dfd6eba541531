/- Contracts of package sha: words turned. -/
import Derived.Test.YtakkicppgkmokaaGreatCmpJ
import Derived.Test.YtakkicppgkmokaaGreatBytJ
import Derived.Test.YtakkicppgkmokaaGreatRegJ
import Derived.Test.YtakkicppgkmokaaGreatChaJ
import Derived.Lib.Hide
set_option linter.unusedSimpArgs false
set_option linter.unusedVariables false
set_option maxRecDepth 4000
namespace Go.Proofs.YtakkicppgkmokaaGreat
open Go.RowKit
theorem rotn6_any (x : Int) (w : World) :
  Calls Tryz.prog 151 #[.int .u32 x, .int .i64 (-6)] w fun e w' => e = .returned (.int .u32 (rotI x 26)) ∧ w = w' := by
 have hb : bits .and .u64 (IntKind.u64.wrap (-6)) 31 = 26 := by decide +kernel
 go_enter Tryz.func151, Tryz.ntmps151
 go_wp2_with fail
 go_ret
 exact ⟨rfl, rfl⟩
theorem rotn11_any (x : Int) (w : World) :
  Calls Tryz.prog 151 #[.int .u32 x, .int .i64 (-11)] w fun e w' => e = .returned (.int .u32 (rotI x 21)) ∧ w = w' := by
 have hb : bits .and .u64 (IntKind.u64.wrap (-11)) 31 = 21 := by decide +kernel
 go_enter Tryz.func151, Tryz.ntmps151
 go_wp2_with fail
 go_ret
 exact ⟨rfl, rfl⟩
theorem rotn25_any (x : Int) (w : World) :
  Calls Tryz.prog 151 #[.int .u32 x, .int .i64 (-25)] w fun e w' => e = .returned (.int .u32 (rotI x 7)) ∧ w = w' := by
 have hb : bits .and .u64 (IntKind.u64.wrap (-25)) 31 = 7 := by decide +kernel
 go_enter Tryz.func151, Tryz.ntmps151
 go_wp2_with fail
 go_ret
 exact ⟨rfl, rfl⟩
theorem rotn2_any (x : Int) (w : World) :
  Calls Tryz.prog 151 #[.int .u32 x, .int .i64 (-2)] w fun e w' => e = .returned (.int .u32 (rotI x 30)) ∧ w = w' := by
 have hb : bits .and .u64 (IntKind.u64.wrap (-2)) 31 = 30 := by decide +kernel
 go_enter Tryz.func151, Tryz.ntmps151
 go_wp2_with fail
 go_ret
 exact ⟨rfl, rfl⟩
theorem rotn13_any (x : Int) (w : World) :
  Calls Tryz.prog 151 #[.int .u32 x, .int .i64 (-13)] w fun e w' => e = .returned (.int .u32 (rotI x 19)) ∧ w = w' := by
 have hb : bits .and .u64 (IntKind.u64.wrap (-13)) 31 = 19 := by decide +kernel
 go_enter Tryz.func151, Tryz.ntmps151
 go_wp2_with fail
 go_ret
 exact ⟨rfl, rfl⟩
theorem rotn22_any (x : Int) (w : World) :
  Calls Tryz.prog 151 #[.int .u32 x, .int .i64 (-22)] w fun e w' => e = .returned (.int .u32 (rotI x 10)) ∧ w = w' := by
 have hb : bits .and .u64 (IntKind.u64.wrap (-22)) 31 = 10 := by decide +kernel
 go_enter Tryz.func151, Tryz.ntmps151
 go_wp2_with fail
 go_ret
 exact ⟨rfl, rfl⟩
theorem rotn7_any (x : Int) (w : World) :
  Calls Tryz.prog 151 #[.int .u32 x, .int .i64 (-7)] w fun e w' => e = .returned (.int .u32 (rotI x 25)) ∧ w = w' := by
 have hb : bits .and .u64 (IntKind.u64.wrap (-7)) 31 = 25 := by decide +kernel
 go_enter Tryz.func151, Tryz.ntmps151
 go_wp2_with fail
 go_ret
 exact ⟨rfl, rfl⟩
theorem rotn18_any (x : Int) (w : World) :
  Calls Tryz.prog 151 #[.int .u32 x, .int .i64 (-18)] w fun e w' => e = .returned (.int .u32 (rotI x 14)) ∧ w = w' := by
 have hb : bits .and .u64 (IntKind.u64.wrap (-18)) 31 = 14 := by decide +kernel
 go_enter Tryz.func151, Tryz.ntmps151
 go_wp2_with fail
 go_ret
 exact ⟨rfl, rfl⟩
theorem rotn17_any (x : Int) (w : World) :
  Calls Tryz.prog 151 #[.int .u32 x, .int .i64 (-17)] w fun e w' => e = .returned (.int .u32 (rotI x 15)) ∧ w = w' := by
 have hb : bits .and .u64 (IntKind.u64.wrap (-17)) 31 = 15 := by decide +kernel
 go_enter Tryz.func151, Tryz.ntmps151
 go_wp2_with fail
 go_ret
 exact ⟨rfl, rfl⟩
theorem rotn19_any (x : Int) (w : World) :
  Calls Tryz.prog 151 #[.int .u32 x, .int .i64 (-19)] w fun e w' => e = .returned (.int .u32 (rotI x 13)) ∧ w = w' := by
 have hb : bits .and .u64 (IntKind.u64.wrap (-19)) 31 = 13 := by decide +kernel
 go_enter Tryz.func151, Tryz.ntmps151
 go_wp2_with fail
 go_ret
 exact ⟨rfl, rfl⟩
theorem rot_below {f : FuncId} {args : Array Value} {w : World} {P : Program} {v : Value} (h : Calls P f args w fun e w' => e = .returned v ∧ w = w') : Calls P f args w fun e w' => e = .returned v ∧ Below w.heap.size w w' :=
 h.mono fun e w' ⟨h1, h2⟩ => ⟨h1, by rw [← h2]; exact Below.refl _ _⟩
theorem rotn7_b (x : Int) (w : World) : Calls Tryz.prog 151 #[.int .u32 x, .int .i64 (IntKind.i64.wrap (-7))] w fun e w' => e = .returned (.int .u32 (rotI x 25)) ∧ Below w.heap.size w w' := by
 rw [show IntKind.i64.wrap (-7) = -7 by decide]
 exact rot_below (rotn7_any x w)
theorem rotn18_b (x : Int) (w : World) : Calls Tryz.prog 151 #[.int .u32 x, .int .i64 (IntKind.i64.wrap (-18))] w fun e w' => e = .returned (.int .u32 (rotI x 14)) ∧ Below w.heap.size w w' := by
 rw [show IntKind.i64.wrap (-18) = -18 by decide]
 exact rot_below (rotn18_any x w)
theorem rotn17_b (x : Int) (w : World) : Calls Tryz.prog 151 #[.int .u32 x, .int .i64 (IntKind.i64.wrap (-17))] w fun e w' => e = .returned (.int .u32 (rotI x 15)) ∧ Below w.heap.size w w' := by
 rw [show IntKind.i64.wrap (-17) = -17 by decide]
 exact rot_below (rotn17_any x w)
theorem rotn19_b (x : Int) (w : World) : Calls Tryz.prog 151 #[.int .u32 x, .int .i64 (IntKind.i64.wrap (-19))] w fun e w' => e = .returned (.int .u32 (rotI x 13)) ∧ Below w.heap.size w w' := by
 rw [show IntKind.i64.wrap (-19) = -19 by decide]
 exact rot_below (rotn19_any x w)
def threeI (x : Int) (a b c : Nat) : Int := bits .xor .u32 (bits .xor .u32 (rotI x a) (rotI x b)) (rotI x c)
def twoI (x : Int) (a b c : Nat) : Int := bits .xor .u32 (bits .xor .u32 (rotI x a) (rotI x b)) (x / 2 ^ c)
theorem three6_any (x : Int) (w : World) :
  Calls Tryz.prog 115 #[.int .u32 x, .int .i64 6, .int .i64 11, .int .i64 25] w fun e w' => e = .returned (.int .u32 (threeI x 26 21 7)) ∧ w = w' := by
 go_enter Tryz.func115, Tryz.ntmps115
 go_wp2_with fail
 refine (rotn6_any _ _).mono ?_
 rintro e w1 ⟨rfl, rfl⟩
 go_wp2_with fail
 refine (rotn11_any _ _).mono ?_
 rintro e w1 ⟨rfl, rfl⟩
 go_wp2_with fail
 refine (rotn25_any _ _).mono ?_
 rintro e w1 ⟨rfl, rfl⟩
 go_wp2_with fail
 go_ret
 exact ⟨rfl, rfl⟩
theorem three2_any (x : Int) (w : World) :
  Calls Tryz.prog 115 #[.int .u32 x, .int .i64 2, .int .i64 13, .int .i64 22] w fun e w' => e = .returned (.int .u32 (threeI x 30 19 10)) ∧ w = w' := by
 go_enter Tryz.func115, Tryz.ntmps115
 go_wp2_with fail
 refine (rotn2_any _ _).mono ?_
 rintro e w1 ⟨rfl, rfl⟩
 go_wp2_with fail
 refine (rotn13_any _ _).mono ?_
 rintro e w1 ⟨rfl, rfl⟩
 go_wp2_with fail
 refine (rotn22_any _ _).mono ?_
 rintro e w1 ⟨rfl, rfl⟩
 go_wp2_with fail
 go_ret
 exact ⟨rfl, rfl⟩
theorem two7_any (x : Int) (w : World) :
  Calls Tryz.prog 116 #[.int .u32 x, .int .i64 7, .int .i64 18, .int .i64 3] w fun e w' => e = .returned (.int .u32 (twoI x 25 14 3)) ∧ Below w.heap.size w w' := by
 have H1 := Lib.hid (fun w => rotn7_b x w)
 have H2 := Lib.hid (fun w => rotn18_b x w)
 go_enter Tryz.func116, Tryz.ntmps116
 go_wp2_with fail
 refine wp_region_beginR [] rfl (by simp only [Rws]; (repeat (first | exact trivial | refine ⟨(by first | assumption | (simp [go_sem, *]; done)), (by first | omega | (simp; done) | (simp; omega)), ?_⟩))) (fun hS => ?_)
 refine qp 0 hS ?_
 refine qp 1 hS ?_
 refine qp 2 hS ?_
 refine qc 3 (v := ?_) hS ?_ ?_
 rotate_left
 ·
  intro w' hS'
  simp only [Rws] at hS'
  go_simp
  with_reducible refine (H1.out _).mono ?_
  rintro e w'' ⟨rfl, hb⟩
  exact ⟨_, rfl, by rfl, hb⟩
 refine qp 4 hS ?_
 refine qp 5 hS ?_
 refine qp 6 hS ?_
 refine qc 7 (v := ?_) hS ?_ ?_
 rotate_left
 ·
  intro w' hS'
  simp only [Rws] at hS'
  go_simp
  with_reducible refine (H2.out _).mono ?_
  rintro e w'' ⟨rfl, hb⟩
  exact ⟨_, rfl, by rfl, hb⟩
 refine qp 8 hS ?_
 refine qp 9 hS ?_
 refine qp 10 hS ?_
 refine qp 11 hS ?_
 refine qp 12 hS ?_
 refine qp 13 hS ?_
 refine wpAnyR_done (by kernel_rfl) (fun w1 b1 => ?_) _
 replace b1 : Below (w).heap.size (w) w1 := below_step (Below.drew (Below.refl _ _)) b1
 go_wp2_with fail
 go_ret
 exact ⟨rfl, b1⟩
theorem two17_any (x : Int) (w : World) :
  Calls Tryz.prog 116 #[.int .u32 x, .int .i64 17, .int .i64 19, .int .i64 10] w fun e w' => e = .returned (.int .u32 (twoI x 15 13 10)) ∧ Below w.heap.size w w' := by
 have H1 := Lib.hid (fun w => rotn17_b x w)
 have H2 := Lib.hid (fun w => rotn19_b x w)
 go_enter Tryz.func116, Tryz.ntmps116
 go_wp2_with fail
 refine wp_region_beginR [] rfl (by simp only [Rws]; (repeat (first | exact trivial | refine ⟨(by first | assumption | (simp [go_sem, *]; done)), (by first | omega | (simp; done) | (simp; omega)), ?_⟩))) (fun hS => ?_)
 refine qp 0 hS ?_
 refine qp 1 hS ?_
 refine qp 2 hS ?_
 refine qc 3 (v := ?_) hS ?_ ?_
 rotate_left
 ·
  intro w' hS'
  simp only [Rws] at hS'
  go_simp
  with_reducible refine (H1.out _).mono ?_
  rintro e w'' ⟨rfl, hb⟩
  exact ⟨_, rfl, by rfl, hb⟩
 refine qp 4 hS ?_
 refine qp 5 hS ?_
 refine qp 6 hS ?_
 refine qc 7 (v := ?_) hS ?_ ?_
 rotate_left
 ·
  intro w' hS'
  simp only [Rws] at hS'
  go_simp
  with_reducible refine (H2.out _).mono ?_
  rintro e w'' ⟨rfl, hb⟩
  exact ⟨_, rfl, by rfl, hb⟩
 refine qp 8 hS ?_
 refine qp 9 hS ?_
 refine qp 10 hS ?_
 refine qp 11 hS ?_
 refine qp 12 hS ?_
 refine qp 13 hS ?_
 refine wpAnyR_done (by kernel_rfl) (fun w1 b1 => ?_) _
 replace b1 : Below (w).heap.size (w) w1 := below_step (Below.drew (Below.refl _ _)) b1
 go_wp2_with fail
 go_ret
 exact ⟨rfl, b1⟩
end Go.Proofs.YtakkicppgkmokaaGreat
