/- Texts of this proof, merged: Tun, Lnk, TunP. -/
import Derived.Test.YtcebllbikmgjpaaGreatJ14
import Derived.Test.YtcebllbikmgjpaaGreatJ2
import Derived.Test.YtcebllbikmgjpaaGreatRegJ
import Derived.Test.YtcebllbikmgjpaaGreatBytJ
import Derived.Handy
set_option linter.unusedSimpArgs false
set_option linter.unusedVariables false
set_option maxHeartbeats 8000000
set_option maxRecDepth 20000
namespace Go.Proofs.YtcebllbikmgjpaaGreat
section
open Go.RowKit
def tofN (l : List UInt8) : Nat := numN (l.take 4) * 4294967296 + numN (l.drop 4)
theorem or_64 (a b : Nat) (ha : a < 4294967296) (hb : b < 4294967296) : bits .or .u64 ((a : Int) * 4294967296) (b : Int) = ((a * 4294967296 + b : Nat) : Int) := by
 have h := bits_join .u64 64 (by decide) (fun n h0 h1 => by rw [IntKind.wrap_u64]; omega) 32 ((a : Int) * 4294967296) (b : Int) (by omega) (by omega) (by omega) (by omega) (by omega) (by omega)
 rw [h]
 omega
theorem tof_any (l : List UInt8) (w : World) (hl : l.length = 8) :
  Calls Tryz.prog 130 #[.string ⟨l.toArray⟩] w fun e w' => e = .returned (.int .u64 (tofN l : Int)) ∧ w = w' := by
 have h1 := h_ (fun w => number_any ⟨(l.take 4).toArray⟩ w (by simp [ByteArray.size, hl]))
 have h2 := h_ (fun w => number_any ⟨(l.drop 4).toArray⟩ w (by simp [ByteArray.size, hl]))
 have hb1 : numN (l.take 4) < 4294967296 := numN_le (k := 4) _ (by rw [List.length_take]; omega)
 have hb2 : numN (l.drop 4) < 4294967296 := numN_le (k := 4) _ (by rw [List.length_drop]; omega)
 have hlI : (l.length : Int) = 8 := by omega
 have ht : List.take (l.length - 4) (l.drop 4) = l.drop 4 := List.take_of_length_le (by rw [List.length_drop]; omega)
 have HL := h_ hl
 clear hl
 go_enter Tryz.func130, Tryz.ntmps130
 go_wp2_with fail
 refine (h1.out _).mono ?_
 rintro e w1 ⟨rfl, rfl⟩
 go_wp2_with fail
 refine (h2.out _).mono ?_
 rintro e w1 ⟨rfl, rfl⟩
 go_wp2_with fail
 go_ret
 refine ⟨?_, rfl⟩
 rw [or_64 _ _ hb1 hb2]
 rfl
theorem tof_below (l : List UInt8) (w : World) (hl : l.length = 8) :
  Calls Tryz.prog 130 #[.string ⟨l.toArray⟩] w fun e w' => e = .returned (.int .u64 (tofN l : Int)) ∧ Below w.heap.size w w' := by
 refine (tof_any l w hl).mono ?_
 rintro e w' ⟨rfl, rfl⟩
 exact ⟨rfl, Below.refl _ _⟩
def gramV (kind : Int) (n : Nat) (body : List UInt8) : List Value := [.int .i64 kind, .int .u64 (n : Int), .string ⟨body.toArray⟩]
def gram0 : List Value := [.int .i64 0, .int .u64 0, .string ⟨#[]⟩]
section
variable (w : World)
theorem tunParse_nil : Calls Tryz.prog 83 #[.string ⟨#[]⟩] w fun e w' => e = .returned (.tuple #[.agg gram0.toArray, .int .i64 2]) ∧ Below w.heap.size w w' := by
 unfold gram0
 go_enter Tryz.func83, Tryz.ntmps83
 go_wp2_with fail
 refine bodyPost_ret (results_2 rfl (resOk_row rfl ?_) resOk_tmp) rfl ?_
 ·
  simp [go_sem]
 ·
  refine ⟨by simp [go_sem], ?_⟩
  (repeat (first | exact Below.refl _ _ | refine Below.al ?_ _ | refine Below.drew ?_ | refine Below.sr ?_ _ | refine Below.sc ?_ _))
theorem tunParse_kind (b : UInt8) (l : List UInt8) (hb : b.toNat < 1 ∨ 3 < b.toNat) (hl : l.length ≤ 100000) : Calls Tryz.prog 83 #[.string ⟨(b :: l).toArray⟩] w fun e w' => e = .returned (.tuple #[.agg gram0.toArray, .int .i64 3]) ∧ Below w.heap.size w w' := by
 unfold gram0
 have hl1 : (1 : Int) ≤ (l.length : Int) + 1 := by omega
 have hlI : (l.length : Int) ≤ 100000 := by omega
 have hb8 : (b.toNat : Int) < 256 := by have := b.toNat_lt; omega
 have hwb : IntKind.i64.wrap (b.toNat : Int) = (b.toNat : Int) := by rw [IntKind.wrap_i64]; omega
 go_enter Tryz.func83, Tryz.ntmps83
 go_wp2_with fail
 obtain ⟨W, hW⟩ : ∃ v, w.alloc (.cells #[.int .i64 0, .int .u64 0, .string ⟨#[]⟩] 210) = v := ⟨_, rfl⟩
 have rG : row W w.heap.size = #[.int .i64 0, .int .u64 0, .string ⟨#[]⟩] := by rw [← hW]; simp [go_sem]
 have zW : W.heap.size = w.heap.size + 1 := by rw [← hW]; simp
 have bW : Below w.heap.size w W := by
  rw [← hW]
  (repeat (first | exact Below.refl _ _ | refine Below.al ?_ _ | refine Below.drew ?_ | refine Below.sr ?_ _ | refine Below.sc ?_ _))
 rw [hW]
 clear hW
 refine rgR_ [] (fun hS => ?_)
 refine qp 0 hS ?_
 refine qp 1 hS ?_
 refine qp 2 hS ?_
 refine qp 3 hS ?_
 refine qp 4 hS ?_
 refine qp 5 hS ?_
 refine qp 6 hS ?_
 refine wpAnyR_done kr_ (fun w1 h1 => ?_) _
 replace h1 : Below (W).heap.size (W) w1 := below_step (Below.drew (Below.refl _ _)) h1
 have z1 := h1.size
 have rG1 := (row_below h1 (by omega)).trans rG
 have bb1 := bW.trans (h1.mono (by omega))
 clear rG bW h1
 have b2 : (b.toNat : Int) < 1 ∨ ((b.toNat : Int) < 1 → False) ∧ 3 < (b.toNat : Int) := by omega
 rcases b2 with b2 | ⟨b2, b3⟩
 ·
  go_wp2_with fail
  have hfin := row_setRow_same (w := w1) (g := w.heap.size) (c := #[.int .i64 0, .int .u64 0, .string ⟨#[]⟩]) (by rw [rG1]; simp) (by rw [rG1]; try simp)
  refine bodyPost_ret (results_2 rfl (resOk_row rfl ?_) resOk_tmp) rfl ?_
  ·
   rw [hfin]
   simp
  ·
   exact ⟨by rw [hfin]; rfl, Below.setRow bb1 (by omega) _⟩
 ·
  go_wp2_with fail
  have hfin := row_setRow_same (w := w1) (g := w.heap.size) (c := #[.int .i64 0, .int .u64 0, .string ⟨#[]⟩]) (by rw [rG1]; simp) (by rw [rG1]; try simp)
  refine bodyPost_ret (results_2 rfl (resOk_row rfl ?_) resOk_tmp) rfl ?_
  ·
   rw [hfin]
   simp
  ·
   exact ⟨by rw [hfin]; rfl, Below.setRow bb1 (by omega) _⟩
theorem tunParse_short3 (b : UInt8) (l : List UInt8) (hb : b = 3) (h : l.length < 24) (hl : l.length ≤ 100000) : Calls Tryz.prog 83 #[.string ⟨(b :: l).toArray⟩] w fun e w' => e = .returned (.tuple #[.agg (gram0).toArray, .int .i64 2]) ∧ Below w.heap.size w w' := by
 unfold gram0
 have hs : (l.length : Int) < 24 := by omega
 have hl1 : (1 : Int) ≤ (l.length : Int) + 1 := by omega
 have hlI : (l.length : Int) ≤ 100000 := by omega
 have hb8 : (b.toNat : Int) < 256 := by have := b.toNat_lt; omega
 have hwb : IntKind.i64.wrap (b.toNat : Int) = (b.toNat : Int) := by rw [IntKind.wrap_i64]; omega
 go_enter Tryz.func83, Tryz.ntmps83
 go_wp2_with fail
 obtain ⟨W, hW⟩ : ∃ v, w.alloc (.cells #[.int .i64 0, .int .u64 0, .string ⟨#[]⟩] 210) = v := ⟨_, rfl⟩
 have rG : row W w.heap.size = #[.int .i64 0, .int .u64 0, .string ⟨#[]⟩] := by rw [← hW]; simp [go_sem]
 have zW : W.heap.size = w.heap.size + 1 := by rw [← hW]; simp
 have bW : Below w.heap.size w W := by
  rw [← hW]
  (repeat (first | exact Below.refl _ _ | refine Below.al ?_ _ | refine Below.drew ?_ | refine Below.sr ?_ _ | refine Below.sc ?_ _))
 rw [hW]
 clear hW
 refine rgR_ [] (fun hS => ?_)
 refine qp 0 hS ?_
 refine qp 1 hS ?_
 refine qp 2 hS ?_
 refine qp 3 hS ?_
 refine qp 4 hS ?_
 refine qp 5 hS ?_
 refine qp 6 hS ?_
 refine wpAnyR_done kr_ (fun w1 h1 => ?_) _
 replace h1 : Below (W).heap.size (W) w1 := below_step (Below.drew (Below.refl _ _)) h1
 have z1 := h1.size
 have rG1 := (row_below h1 (by omega)).trans rG
 have bb1 := bW.trans (h1.mono (by omega))
 clear rG bW h1
 subst hb
 (try simp only [show (UInt8.toNat 3 : Int) = 3 from rfl])
 go_wp2_with fail
 have hfin := row_setRow_same (w := w1) (g := w.heap.size) (c := #[.int .i64 0, .int .u64 0, .string ⟨#[]⟩]) (by rw [rG1]; simp) (by rw [rG1]; try simp)
 refine bodyPost_ret (results_2 rfl (resOk_row rfl ?_) resOk_tmp) rfl ?_
 ·
  rw [hfin]
  simp
 ·
  exact ⟨by rw [hfin]; rfl, Below.setRow bb1 (by omega) _⟩
theorem tunParse_short12 (b : UInt8) (l : List UInt8) (hb : b = 1 ∨ b = 2) (h : l.length < 48) (hl : l.length ≤ 100000) : Calls Tryz.prog 83 #[.string ⟨(b :: l).toArray⟩] w fun e w' => e = .returned (.tuple #[.agg (gram0).toArray, .int .i64 2]) ∧ Below w.heap.size w w' := by
 unfold gram0
 have hs : (l.length : Int) < 48 := by omega
 have hl1 : (1 : Int) ≤ (l.length : Int) + 1 := by omega
 have hlI : (l.length : Int) ≤ 100000 := by omega
 have hb8 : (b.toNat : Int) < 256 := by have := b.toNat_lt; omega
 have hwb : IntKind.i64.wrap (b.toNat : Int) = (b.toNat : Int) := by rw [IntKind.wrap_i64]; omega
 go_enter Tryz.func83, Tryz.ntmps83
 go_wp2_with fail
 obtain ⟨W, hW⟩ : ∃ v, w.alloc (.cells #[.int .i64 0, .int .u64 0, .string ⟨#[]⟩] 210) = v := ⟨_, rfl⟩
 have rG : row W w.heap.size = #[.int .i64 0, .int .u64 0, .string ⟨#[]⟩] := by rw [← hW]; simp [go_sem]
 have zW : W.heap.size = w.heap.size + 1 := by rw [← hW]; simp
 have bW : Below w.heap.size w W := by
  rw [← hW]
  (repeat (first | exact Below.refl _ _ | refine Below.al ?_ _ | refine Below.drew ?_ | refine Below.sr ?_ _ | refine Below.sc ?_ _))
 rw [hW]
 clear hW
 refine rgR_ [] (fun hS => ?_)
 refine qp 0 hS ?_
 refine qp 1 hS ?_
 refine qp 2 hS ?_
 refine qp 3 hS ?_
 refine qp 4 hS ?_
 refine qp 5 hS ?_
 refine qp 6 hS ?_
 refine wpAnyR_done kr_ (fun w1 h1 => ?_) _
 replace h1 : Below (W).heap.size (W) w1 := below_step (Below.drew (Below.refl _ _)) h1
 have z1 := h1.size
 have rG1 := (row_below h1 (by omega)).trans rG
 have bb1 := bW.trans (h1.mono (by omega))
 clear rG bW h1
 rcases hb with rfl | rfl
 ·
  simp only [show (UInt8.toNat 1 : Int) = 1 from rfl]
  go_wp2_with fail
  have hfin := row_setRow_same (w := w1) (g := w.heap.size) (c := #[.int .i64 0, .int .u64 0, .string ⟨#[]⟩]) (by rw [rG1]; simp) (by rw [rG1]; try simp)
  refine bodyPost_ret (results_2 rfl (resOk_row rfl ?_) resOk_tmp) rfl ?_
  ·
   rw [hfin]
   simp
  ·
   exact ⟨by rw [hfin]; rfl, Below.setRow bb1 (by omega) _⟩
 ·
  simp only [show (UInt8.toNat 2 : Int) = 2 from rfl]
  go_wp2_with fail
  have hfin := row_setRow_same (w := w1) (g := w.heap.size) (c := #[.int .i64 0, .int .u64 0, .string ⟨#[]⟩]) (by rw [rG1]; simp) (by rw [rG1]; try simp)
  refine bodyPost_ret (results_2 rfl (resOk_row rfl ?_) resOk_tmp) rfl ?_
  ·
   rw [hfin]
   simp
  ·
   exact ⟨by rw [hfin]; rfl, Below.setRow bb1 (by omega) _⟩
theorem tunParse_long12 (b : UInt8) (l : List UInt8) (hb : b = 1 ∨ b = 2) (h : 48 < l.length) (hl : l.length ≤ 100000) : Calls Tryz.prog 83 #[.string ⟨(b :: l).toArray⟩] w fun e w' => e = .returned (.tuple #[.agg (gram0).toArray, .int .i64 3]) ∧ Below w.heap.size w w' := by
 unfold gram0
 have hs : ¬ (l.length : Int) < 48 := by omega
 have hs2 : (48 : Int) < (l.length : Int) := by omega
 have hl1 : (1 : Int) ≤ (l.length : Int) + 1 := by omega
 have hlI : (l.length : Int) ≤ 100000 := by omega
 have hb8 : (b.toNat : Int) < 256 := by have := b.toNat_lt; omega
 have hwb : IntKind.i64.wrap (b.toNat : Int) = (b.toNat : Int) := by rw [IntKind.wrap_i64]; omega
 go_enter Tryz.func83, Tryz.ntmps83
 go_wp2_with fail
 obtain ⟨W, hW⟩ : ∃ v, w.alloc (.cells #[.int .i64 0, .int .u64 0, .string ⟨#[]⟩] 210) = v := ⟨_, rfl⟩
 have rG : row W w.heap.size = #[.int .i64 0, .int .u64 0, .string ⟨#[]⟩] := by rw [← hW]; simp [go_sem]
 have zW : W.heap.size = w.heap.size + 1 := by rw [← hW]; simp
 have bW : Below w.heap.size w W := by
  rw [← hW]
  (repeat (first | exact Below.refl _ _ | refine Below.al ?_ _ | refine Below.drew ?_ | refine Below.sr ?_ _ | refine Below.sc ?_ _))
 rw [hW]
 clear hW
 refine rgR_ [] (fun hS => ?_)
 refine qp 0 hS ?_
 refine qp 1 hS ?_
 refine qp 2 hS ?_
 refine qp 3 hS ?_
 refine qp 4 hS ?_
 refine qp 5 hS ?_
 refine qp 6 hS ?_
 refine wpAnyR_done kr_ (fun w1 h1 => ?_) _
 replace h1 : Below (W).heap.size (W) w1 := below_step (Below.drew (Below.refl _ _)) h1
 have z1 := h1.size
 have rG1 := (row_below h1 (by omega)).trans rG
 have bb1 := bW.trans (h1.mono (by omega))
 clear rG bW h1
 rcases hb with rfl | rfl
 ·
  simp only [show (UInt8.toNat 1 : Int) = 1 from rfl]
  go_wp2_with fail
  have hfin := row_setRow_same (w := w1) (g := w.heap.size) (c := #[.int .i64 0, .int .u64 0, .string ⟨#[]⟩]) (by rw [rG1]; simp) (by rw [rG1]; try simp)
  refine bodyPost_ret (results_2 rfl (resOk_row rfl ?_) resOk_tmp) rfl ?_
  ·
   rw [hfin]
   simp
  ·
   exact ⟨by rw [hfin]; rfl, Below.setRow bb1 (by omega) _⟩
 ·
  simp only [show (UInt8.toNat 2 : Int) = 2 from rfl]
  go_wp2_with fail
  have hfin := row_setRow_same (w := w1) (g := w.heap.size) (c := #[.int .i64 0, .int .u64 0, .string ⟨#[]⟩]) (by rw [rG1]; simp) (by rw [rG1]; try simp)
  refine bodyPost_ret (results_2 rfl (resOk_row rfl ?_) resOk_tmp) rfl ?_
  ·
   rw [hfin]
   simp
  ·
   exact ⟨by rw [hfin]; rfl, Below.setRow bb1 (by omega) _⟩
theorem tunParse_ok12 (b : UInt8) (l : List UInt8) (hb : b = 1 ∨ b = 2) (h : l.length = 48) (hl : l.length ≤ 100000) : Calls Tryz.prog 83 #[.string ⟨(b :: l).toArray⟩] w fun e w' => e = .returned (.tuple #[.agg (gramV (b.toNat : Int) 0 l).toArray, .int .i64 0]) ∧ Below w.heap.size w w' := by
 unfold gramV
 have hs : (l.length : Int) = 48 := by omega
 have hl1 : (1 : Int) ≤ (l.length : Int) + 1 := by omega
 have hlI : (l.length : Int) ≤ 100000 := by omega
 have hb8 : (b.toNat : Int) < 256 := by have := b.toNat_lt; omega
 have hwb : IntKind.i64.wrap (b.toNat : Int) = (b.toNat : Int) := by rw [IntKind.wrap_i64]; omega
 go_enter Tryz.func83, Tryz.ntmps83
 go_wp2_with fail
 obtain ⟨W, hW⟩ : ∃ v, w.alloc (.cells #[.int .i64 0, .int .u64 0, .string ⟨#[]⟩] 210) = v := ⟨_, rfl⟩
 have rG : row W w.heap.size = #[.int .i64 0, .int .u64 0, .string ⟨#[]⟩] := by rw [← hW]; simp [go_sem]
 have zW : W.heap.size = w.heap.size + 1 := by rw [← hW]; simp
 have bW : Below w.heap.size w W := by
  rw [← hW]
  (repeat (first | exact Below.refl _ _ | refine Below.al ?_ _ | refine Below.drew ?_ | refine Below.sr ?_ _ | refine Below.sc ?_ _))
 rw [hW]
 clear hW
 refine rgR_ [] (fun hS => ?_)
 refine qp 0 hS ?_
 refine qp 1 hS ?_
 refine qp 2 hS ?_
 refine qp 3 hS ?_
 refine qp 4 hS ?_
 refine qp 5 hS ?_
 refine qp 6 hS ?_
 refine wpAnyR_done kr_ (fun w1 h1 => ?_) _
 replace h1 : Below (W).heap.size (W) w1 := below_step (Below.drew (Below.refl _ _)) h1
 have z1 := h1.size
 have rG1 := (row_below h1 (by omega)).trans rG
 have bb1 := bW.trans (h1.mono (by omega))
 clear rG bW h1
 rcases hb with rfl | rfl
 ·
  simp only [show (UInt8.toNat 1 : Int) = 1 from rfl]
  go_wp2_with fail
  have hfin := row_setRow_same (w := w1) (g := w.heap.size) (c := #[.int .i64 1, .int .u64 0, .string ⟨l.toArray⟩]) (by rw [rG1]; simp) (by rw [rG1]; try simp)
  refine bodyPost_ret (results_2 rfl (resOk_row rfl ?_) resOk_tmp) rfl ?_
  ·
   rw [hfin]
   simp
  ·
   exact ⟨by rw [hfin]; rfl, Below.setRow bb1 (by omega) _⟩
 ·
  simp only [show (UInt8.toNat 2 : Int) = 2 from rfl]
  go_wp2_with fail
  have hfin := row_setRow_same (w := w1) (g := w.heap.size) (c := #[.int .i64 2, .int .u64 0, .string ⟨l.toArray⟩]) (by rw [rG1]; simp) (by rw [rG1]; try simp)
  refine bodyPost_ret (results_2 rfl (resOk_row rfl ?_) resOk_tmp) rfl ?_
  ·
   rw [hfin]
   simp
  ·
   exact ⟨by rw [hfin]; rfl, Below.setRow bb1 (by omega) _⟩
theorem tunParse_ok3 (b : UInt8) (l : List UInt8) (hb : b = 3) (h : 24 ≤ l.length) (hl : l.length ≤ 100000) : Calls Tryz.prog 83 #[.string ⟨(b :: l).toArray⟩] w fun e w' => e = .returned (.tuple #[.agg (gramV 3 (tofN (l.take 8)) (l.drop 8)).toArray, .int .i64 0]) ∧ Below w.heap.size w w' := by
 unfold gramV
 have hs : ¬ (l.length : Int) < 24 := by omega
 have hs8 : (8 : Int) ≤ (l.length : Int) := by omega
 have HO := h_ (fun w => tof_below (l.take 8) w (by rw [List.length_take]; omega))
 have hd8 : List.take (l.length - 8) (List.drop 8 l) = List.drop 8 l := List.take_of_length_le (by rw [List.length_drop]; omega)
 have hl1 : (1 : Int) ≤ (l.length : Int) + 1 := by omega
 have hlI : (l.length : Int) ≤ 100000 := by omega
 have hb8 : (b.toNat : Int) < 256 := by have := b.toNat_lt; omega
 have hwb : IntKind.i64.wrap (b.toNat : Int) = (b.toNat : Int) := by rw [IntKind.wrap_i64]; omega
 go_enter Tryz.func83, Tryz.ntmps83
 go_wp2_with fail
 obtain ⟨W, hW⟩ : ∃ v, w.alloc (.cells #[.int .i64 0, .int .u64 0, .string ⟨#[]⟩] 210) = v := ⟨_, rfl⟩
 have rG : row W w.heap.size = #[.int .i64 0, .int .u64 0, .string ⟨#[]⟩] := by rw [← hW]; simp [go_sem]
 have zW : W.heap.size = w.heap.size + 1 := by rw [← hW]; simp
 have bW : Below w.heap.size w W := by
  rw [← hW]
  (repeat (first | exact Below.refl _ _ | refine Below.al ?_ _ | refine Below.drew ?_ | refine Below.sr ?_ _ | refine Below.sc ?_ _))
 rw [hW]
 clear hW
 refine rgR_ [] (fun hS => ?_)
 refine qp 0 hS ?_
 refine qp 1 hS ?_
 refine qp 2 hS ?_
 refine qp 3 hS ?_
 refine qp 4 hS ?_
 refine qp 5 hS ?_
 refine qp 6 hS ?_
 refine wpAnyR_done kr_ (fun w1 h1 => ?_) _
 replace h1 : Below (W).heap.size (W) w1 := below_step (Below.drew (Below.refl _ _)) h1
 have z1 := h1.size
 have rG1 := (row_below h1 (by omega)).trans rG
 have bb1 := bW.trans (h1.mono (by omega))
 clear rG bW h1
 subst hb
 (try simp only [show (UInt8.toNat 3 : Int) = 3 from rfl])
 go_wp2_with fail
 have rGd : row w1.drew w.heap.size = #[.int .i64 0, .int .u64 0, .string ⟨#[]⟩] := rG1
 have zd : w1.drew.heap.size = w1.heap.size := rfl
 refine rgR_ [] (fun hS => ?_)
 refine qp 0 hS ?_
 refine qp 1 hS ?_
 refine qp 2 hS ?_
 refine qp 4 hS ?_
 refine qp 5 hS ?_
 refine qc 3 (v := ?_) hS ?_ ?_
 rotate_left
 ·
  intro w' hS'
  simp only [Rws] at hS'
  go_simp
  with_reducible refine (HO.out _).mono ?_
  rintro e w'' ⟨rfl, hb⟩
  exact ⟨_, rfl, by rfl, hb⟩
 refine qp 6 hS ?_
 refine wpAnyR_store (i := 7) (b := w.heap.size) (c := ([.int .i64 3, .int .u64 (tofN (l.take 8) : Int), .string ⟨(l.drop 8).toArray⟩]).toArray) opt_ rfl rfl kr_ (by simp; (try omega)) hS (by rw [rGd]; simp; (try omega)) (fun w1 hr => by rw [rGd] at hr; go_simp; (try rfl)) (fun u1 hu1 ru1 hS => ?_)
 refine qp 8 hS ?_
 refine wpAnyR_done kr_ (fun wN hN => ?_) _
 have zu := hu1.size
 have rN : row wN w.heap.size = #[.int .i64 3, .int .u64 (tofN (l.take 8) : Int), .string ⟨(l.drop 8).toArray⟩] := by
  rw [row_below hN (by rw [setRow_size]; omega)]
  exact row_setRow_same (by rw [ru1, rGd]; simp) (by rw [ru1, rGd]; simp)
 have bN : Below w.heap.size w wN := Below.trans (Below.setRow (Below.trans (Below.drew bb1) (hu1.mono (by omega))) (by omega) _) (hN.mono (by rw [setRow_size]; omega))
 clear hN hu1 ru1 hS
 go_wp2_with fail
 refine bodyPost_ret (results_2 rfl (resOk_row rfl ?_) resOk_tmp) rfl ?_
 ·
  rw [rN]
  simp
 ·
  exact ⟨by rw [rN]; rfl, bN⟩
end
end
section
open Go.RowKit
structure LinkT where
 psk : List UInt8
 greets : Bool
 r : Int
 k : Int
 p : Int
 d : Int
 now : Int
 a : Option Addr
 b : Option Addr
 c : Option Addr
 talk : Option Addr
 asked : Int
 made : Int
 last : Int
def LinkT.cells (l : LinkT) : List Value := u8s l.psk ++ (.bool l.greets :: .int .i64 l.r :: .int .i64 l.k :: .int .i64 l.p :: .int .i64 l.d :: .int .i64 l.now :: .pointer l.a :: .pointer l.b :: .pointer l.c :: .pointer l.talk :: .int .i64 l.asked :: .int .i64 l.made :: [.int .i64 l.last])
def newT (psk : List UInt8) (greets : Bool) (r k p d : Int) : LinkT := ⟨psk, greets, r, k, p, d, 0, none, none, none, none, 0, 0, 0⟩
def okTime (t : Int) : Prop := 1 ≤ t ∧ t ≤ 65535
instance (t : Int) : Decidable (okTime t) := inferInstanceAs (Decidable (_ ∧ _))
def okTimes (r k p d : Int) : Prop := okTime r ∧ okTime k ∧ okTime p ∧ okTime d
instance (r k p d : Int) : Decidable (okTimes r k p d) := inferInstanceAs (Decidable (_ ∧ _))
theorem okTime_no {t : Int} (h : ¬ okTime t) : t < 1 ∨ (¬ t < 1 ∧ 65535 < t) := by unfold okTime at h; omega
theorem okTime_yes {t : Int} (h : okTime t) : ¬ t < 1 ∧ ¬ 65535 < t := by unfold okTime at h; omega
section
variable (psk : List UInt8) (greets : Bool) (r k p d : Int) (w : World)
theorem linkNew_ok (hp : psk.length = 32) (h : okTimes r k p d) :
  Calls Tryz.prog 25 #[.agg (u8s psk).toArray, .bool greets, .agg #[.int .i64 r, .int .i64 k, .int .i64 p, .int .i64 d]] w fun e w' => ∃ L, e = .returned (.tuple #[.pointer (some ⟨L, 0, none⟩), .int .i64 0]) ∧ w.heap.size ≤ L ∧ L < w'.heap.size ∧ row w' L = (newT psk greets r k p d).cells.toArray ∧ Below w.heap.size w w' := by
 obtain ⟨⟨r1, r2⟩, ⟨k1, k2⟩, ⟨p1, p2⟩, ⟨d1, d2⟩⟩ := h
 have r3 : ¬ r < 1 := by omega
 have r4 : ¬ 65535 < r := by omega
 have k3 : ¬ k < 1 := by omega
 have k4 : ¬ 65535 < k := by omega
 have p3 : ¬ p < 1 := by omega
 have p4 : ¬ 65535 < p := by omega
 have d3 : ¬ d < 1 := by omega
 have d4 : ¬ 65535 < d := by omega
 go_enter Tryz.func25, Tryz.ntmps25
 obtain ⟨W, hW⟩ : ∃ x, ((w.alloc (.cells (u8s psk).toArray 28)).alloc (.cells #[.int .i64 r, .int .i64 k, .int .i64 p, .int .i64 d] 44)).alloc (.cells #[.int .i64 r, .int .i64 k, .int .i64 p, .int .i64 d] 3) = x := ⟨_, rfl⟩
 have rP : row W w.heap.size = (u8s psk).toArray := by rw [← hW]; simp [go_sem]
 have rT : row W (w.heap.size + 1) = #[.int .i64 r, .int .i64 k, .int .i64 p, .int .i64 d] := by rw [← hW]; simp [go_sem]
 have rI : row W (w.heap.size + 2) = #[.int .i64 r, .int .i64 k, .int .i64 p, .int .i64 d] := by rw [← hW]; simp [go_sem]
 have zW : W.heap.size = w.heap.size + 3 := by rw [← hW]; simp
 have bW : Below w.heap.size w W := by
  rw [← hW]
  (repeat (first | exact Below.refl _ _ | refine Below.al ?_ _ | refine Below.drew ?_ | refine Below.sr ?_ _ | refine Below.sc ?_ _))
 go_wp2_with fail
 refine wp_loop_rounds 5 ?_
 rw [rounds_succ]
 go_wp2_with fail
 rw [rounds_succ]
 go_wp2_with fail
 rw [rounds_succ]
 go_wp2_with fail
 rw [rounds_succ]
 go_wp2_with fail
 rw [rounds_succ]
 go_wp2_with fail
 go_ret2
 exact ⟨w.heap.size + 3, rfl, by omega, by simp only [alloc_sizeW]; omega, (row_alloc_at _ _ _ zW.symm).trans rfl, Below.alloc bW (by omega) _⟩
theorem linkNew_bad (hp : psk.length = 32) (h : ¬ okTimes r k p d) :
  Calls Tryz.prog 25 #[.agg (u8s psk).toArray, .bool greets, .agg #[.int .i64 r, .int .i64 k, .int .i64 p, .int .i64 d]] w fun e w' => e = .returned (.tuple #[.pointer none, .int .i64 1]) ∧ Below w.heap.size w w' := by
 go_enter Tryz.func25, Tryz.ntmps25
 obtain ⟨W, hW⟩ : ∃ x, ((w.alloc (.cells (u8s psk).toArray 28)).alloc (.cells #[.int .i64 r, .int .i64 k, .int .i64 p, .int .i64 d] 44)).alloc (.cells #[.int .i64 r, .int .i64 k, .int .i64 p, .int .i64 d] 3) = x := ⟨_, rfl⟩
 have rI : row W (w.heap.size + 2) = #[.int .i64 r, .int .i64 k, .int .i64 p, .int .i64 d] := by rw [← hW]; simp [go_sem]
 have zW : W.heap.size = w.heap.size + 3 := by rw [← hW]; simp
 have bW : Below w.heap.size w W := by
  rw [← hW]
  (repeat (first | exact Below.refl _ _ | refine Below.al ?_ _ | refine Below.drew ?_ | refine Below.sr ?_ _ | refine Below.sc ?_ _))
 go_wp2_with fail
 clear hW
 have HH := h_ h
 clear h
 refine wp_loop_rounds 5 ?_
 rw [rounds_succ]
 by_cases hr : okTime r
 ·
  obtain ⟨r1, r2⟩ := okTime_yes hr
  have HR := h_ hr
  clear hr
  go_wp2_with fail
  rw [rounds_succ]
  by_cases hk : okTime k
  ·
   obtain ⟨k1, k2⟩ := okTime_yes hk
   have HK := h_ hk
   clear hk
   go_wp2_with fail
   rw [rounds_succ]
   by_cases hp2 : okTime p
   ·
    obtain ⟨p1, p2⟩ := okTime_yes hp2
    have HP := h_ hp2
    clear hp2
    go_wp2_with fail
    rw [rounds_succ]
    have hd : ¬ okTime d := fun hd => HH.out ⟨HR.out, HK.out, HP.out, hd⟩
    rcases okTime_no hd with d1 | ⟨d1, d2⟩
    ·
     go_wp2_with fail
     go_ret2
     exact ⟨rfl, bW⟩
    ·
     go_wp2_with fail
     go_ret2
     exact ⟨rfl, bW⟩
   ·
    rcases okTime_no hp2 with d1 | ⟨d1, d2⟩
    ·
     go_wp2_with fail
     go_ret2
     exact ⟨rfl, bW⟩
    ·
     go_wp2_with fail
     go_ret2
     exact ⟨rfl, bW⟩
  ·
   rcases okTime_no hk with d1 | ⟨d1, d2⟩
   ·
    go_wp2_with fail
    go_ret2
    exact ⟨rfl, bW⟩
   ·
    go_wp2_with fail
    go_ret2
    exact ⟨rfl, bW⟩
 ·
  rcases okTime_no hr with d1 | ⟨d1, d2⟩
  ·
   go_wp2_with fail
   go_ret2
   exact ⟨rfl, bW⟩
  ·
   go_wp2_with fail
   go_ret2
   exact ⟨rfl, bW⟩
end
/-! ### what nil answers -/
section
variable (w : World)
end
end
section
open Go.RowKit
section
variable (w : World)
theorem tunPrint12 (k : Int) (hk : k = 1 ∨ k = 2) (l : List UInt8) (hl : l.length = 48) : Calls Tryz.prog 105 #[.agg #[.int .i64 k, .int .u64 0, .string ⟨l.toArray⟩]] w fun e w' => e = .returned (.tuple #[.string ⟨(byteI k :: l).toArray⟩, .int .i64 0]) ∧ Below w.heap.size w w' := by
 have hlI : (l.length : Int) = 48 := by omega
 have hl3 : ¬ 9223372036854775807 < 1 + l.length := by omega
 rcases hk with rfl | rfl
 ·
  go_enter Tryz.func105, Tryz.ntmps105
  go_wp2_with fail
  go_ret2
  exact ⟨rfl, blw_⟩
 ·
  go_enter Tryz.func105, Tryz.ntmps105
  go_wp2_with fail
  go_ret2
  exact ⟨rfl, blw_⟩
end
end
end Go.Proofs.YtcebllbikmgjpaaGreat
