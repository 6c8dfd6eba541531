/- Contracts of package hush: tables that are made, asked, counted. -/
import Derived.Test.YtckckabedgpbiaaHus
set_option linter.unusedSimpArgs false
set_option linter.unusedVariables false
set_option maxRecDepth 4000
namespace Go.Proofs.Ytckckabedgpbiaa
open Go.RowKit
theorem HushT.lt {w : World} {T M : Nat} {time : Int} {m : List HB} (h : HushT w T M time m) : T < w.heap.size := lt_of_row (i := 0) (by rw [h.row]; simp)
theorem HushT.below {B : Nat} {w w' : World} {T M : Nat} {time : Int} {m : List HB} (h : HushT w T M time m) (hb : Below B w w') (hT : T < B) (hM : M < B) : HushT w' T M time m :=
  ⟨by rw [row_below hb hT, h.row], mapOk_below hb hM h.ok, by rw [mapL_below hb hM, h.map]⟩
theorem hNew_bad (time : Int) (w : World) (h : time < 1 ∨ 1000000 < time) :
    Calls Try.prog 15 #[.int .i64 time] w fun e w' => e = .returned (.tuple #[.pointer none, .int .i64 1]) ∧ Below w.heap.size w w' := by
  go_enter Try.func15, Try.ntmps15
  by_cases h1 : time < 1
  · go_wp2_with fail
    go_ret2
    exact ⟨rfl, Below.refl _ _⟩
  · have h2 : 1000000 < time := by omega
    go_wp2_with fail
    go_ret2
    exact ⟨rfl, Below.refl _ _⟩
theorem hNew_ok (time : Int) (w : World) (h1 : 1 ≤ time) (h2 : time ≤ 1000000) :
    Calls Try.prog 15 #[.int .i64 time] w fun e w' => e = .returned (.tuple #[.pointer (some ⟨w.heap.size + 1, 0, none⟩), .int .i64 0]) ∧ Below w.heap.size w w' ∧ HushT w' (w.heap.size + 1) w.heap.size time [] ∧ w'.heap.size = w.heap.size + 2 := by
  have h3 : ¬ time < 1 := by omega
  have h4 : ¬ 1000000 < time := by omega
  go_enter Try.func15, Try.ntmps15
  go_wp2_with fail
  go_ret2
  refine ⟨rfl, ?_, ⟨?_, ?_, ?_⟩, ?_⟩
  · (repeat (first | exact Below.refl _ _ | refine Below.alloc ?_ (by first | (simp; done) | (simp; omega) | omega) _ | refine Below.drew ?_ | refine Below.setRow ?_ (by first | (simp; done) | (simp; omega) | omega) _ | refine Below.setCell ?_ (by first | (simp; done) | (simp; omega) | omega) _))
  · simp [go_sem]
  · refine (mapOk_of_block (Below.heap_alloc _ _ _ (by simp))).2 (mapOk_new _ rfl)
  · rw [mapL_alloc _ _ (by simp), mapL_new _ _ _ rfl]; rfl
  · simp
/-- how many are kept -/
theorem hCount_any (w : World) {T M : Nat} {time : Int} {m : List HB} (h : HushT w T M time m) :
    Calls Try.prog 21 #[.pointer (some ⟨T, 0, none⟩)] w fun e w' => e = .returned (.int .i64 (m.length : Int)) ∧ Below w.heap.size w w' := by
  have hr := h.row
  have hl := run_len (ty := 3) map_hush h.ok
  rw [h.map, encH, List.length_map] at hl
  go_enter Try.func21, Try.ntmps21
  go_wp2_with fail
  go_ret
  exact ⟨rfl, Below.refl _ _⟩
theorem hCount_nil (w : World) :
    Calls Try.prog 21 #[.pointer none] w fun e w' => e = .returned (.int .i64 0) ∧ Below w.heap.size w w' := by
  go_enter Try.func21, Try.ntmps21
  go_wp2_with fail
  go_ret
  exact ⟨rfl, Below.refl _ _⟩
/-- whose is an address? -/
def foundH (v : Int) (ip : List UInt8) (m : List HB) : Vector UInt8 6 × Bool := match findH v ip m with | some b => (b.mac, true) | none => (Vector.replicate 6 0, false)
theorem hLook (v : Int) (ip : List UInt8) (m : List HB) : ∃ age : Int, ∀ W M, mapOk W M → mapL W M = encH m →
    (Instr.lookup 108 (.map (some M)) (.agg #[.int .i64 v, .string ⟨ip.toArray⟩]) true).run Try.prog W = .ok (.tuple #[.agg (u8v (foundH v ip m).1 ++ [Value.int .i64 age]).toArray, .bool (foundH v ip m).2]) W := by
  refine ⟨match findH v ip m with | some b => b.age | none => 0, fun W M h1 h2 => ?_⟩
  have h := run_look key_hush map_hush (zero_hush W) h1 (okH v ip) (by rw [h2]; exact okH_all m) true
  rw [h2, lookH] at h
  refine Eq.trans h ?_
  unfold foundH
  cases findH v ip m <;> rfl
theorem hFind_any (v : Int) (ip : List UInt8) (w : World) {T M : Nat} {time : Int} {m : List HB} (h : HushT w T M time m) :
    Calls Try.prog 44 #[.pointer (some ⟨T, 0, none⟩), .int .i64 v, .string ⟨ip.toArray⟩] w fun e w' => e = .returned (.tuple #[.agg (u8v (foundH v ip m).1).toArray, .bool (foundH v ip m).2]) ∧ Below w.heap.size w w' := by
  have hr := h.row
  have hlt := h.lt
  have hMlt := h.ok.lt
  obtain ⟨age, hl⟩ := hLook v ip m
  obtain ⟨fm, hfm⟩ : ∃ x, (foundH v ip m).1 = x := ⟨_, rfl⟩
  obtain ⟨fh, hfh⟩ : ∃ x, (foundH v ip m).2 = x := ⟨_, rfl⟩
  rw [hfm, hfh] at hl ⊢
  have hM := h.ok
  have hL := h.map
  clear hfm hfh
  go_enter Try.func44, Try.ntmps44
  go_wp2_with fail
  ((try simp only [Exit.inBlock, Exit.then]); refine bodyPost_ret (results_2 rfl (resOk_row rfl ?_) resOk_tmp) rfl ?_; (simp [go_sem]))
  refine ⟨by simp [go_sem], ?_⟩
  (repeat (first | exact Below.refl _ _ | refine Below.alloc ?_ (by first | (simp; done) | (simp; omega) | omega) _ | refine Below.drew ?_ | refine Below.setRow ?_ (by first | (simp; done) | (simp; omega) | omega) _ | refine Below.setCell ?_ (by first | (simp; done) | (simp; omega) | omega) _))
end Go.Proofs.Ytckckabedgpbiaa
