/- Contracts of the reference of chapter 21: what a frame asks about. -/
import Derived.Test.YtckckabedgpbiaaGreatJ31
import Derived.WalkSmall
import Derived.Deep.QuietTactic
import Derived.BigQuiet
set_option linter.unusedSimpArgs false
set_option linter.unusedVariables false
set_option maxRecDepth 4000
namespace Go.Proofs.YtckckabedgpbiaaGreat
open Go.RowKit
def RAskC (dst src : Vector UInt8 6) (ty : Int) (body : List UInt8) (ip : List UInt8) (ok : Bool) : Prop := ∀ w, Calls Tryz.prog 44 #[.agg (frameV dst src ty body).toArray] w fun e w' => e = .returned (.tuple #[.string ⟨ip.toArray⟩, .bool ok]) ∧ Below w.heap.size w w'
@[go_sem] theorem u8v_lit16 (v : Vector UInt8 16) : #[(u8v v)[0]'(by simp), (u8v v)[1]'(by simp), (u8v v)[2]'(by simp), (u8v v)[3]'(by simp), (u8v v)[4]'(by simp), (u8v v)[5]'(by simp), (u8v v)[6]'(by simp), (u8v v)[7]'(by simp), (u8v v)[8]'(by simp), (u8v v)[9]'(by simp), (u8v v)[10]'(by simp), (u8v v)[11]'(by simp), (u8v v)[12]'(by simp), (u8v v)[13]'(by simp), (u8v v)[14]'(by simp), (u8v v)[15]'(by simp)] = (u8v v).toArray := by
 apply Array.ext
 ·
  simp
 ·
  intro i h1 h2
  have hi : i < 16 := h1
  have : i = 0 ∨ i = 1 ∨ i = 2 ∨ i = 3 ∨ i = 4 ∨ i = 5 ∨ i = 6 ∨ i = 7 ∨ i = 8 ∨ i = 9 ∨ i = 10 ∨ i = 11 ∨ i = 12 ∨ i = 13 ∨ i = 14 ∨ i = 15 := by omega
  rcases this with rfl | rfl | rfl | rfl | rfl | rfl | rfl | rfl | rfl | rfl | rfl | rfl | rfl | rfl | rfl | rfl <;> rfl
section
variable (dst src : Vector UInt8 6) (body : List UInt8)
theorem rAsk_other (ty : Int) (h1 : (ty == 2054) = false) (h2 : (ty == 34525) = false) : RAskC dst src ty body [] false := by
 intro w
 unfold frameV
 go_enter Tryz.func44, Tryz.ntmps44
 go_wp2_with fail
 refine bodyPost_ret (results_2 rfl resOk_tmp resOk_tmp) rfl ?_
 refine ⟨by simp [go_sem], ?_⟩
 (repeat (first | exact Below.refl _ _ | refine Below.al ?_ _ | refine Below.drew ?_ | refine Below.sr ?_ _ | refine Below.sc ?_ _))
set_option maxRecDepth 20000 in
set_option maxHeartbeats 2000000 in
theorem rAsk_arp (op : Int) (mac tgt : Vector UInt8 6) (ip want : Vector UInt8 4) (er : Int) (HP : ∀ w, Calls Tryz.prog 79 #[.string ⟨body.toArray⟩] w fun e w' => e = .returned (.tuple #[.agg (arpV op mac tgt ip want).toArray, .int .i64 er]) ∧ Below w.heap.size w w') : RAskC dst src 2054 body want.toList ((er == 0) && (op == 1) && (want != ip)) := by
 unfold arpV at HP
 have K := Lib.hid HP
 clear HP
 intro w
 unfold frameV
 go_enter Tryz.func44, Tryz.ntmps44
 go_wp2_with fail
 (with_reducible refine (K.out _).mono ?_)
 rintro e w1 ⟨rfl, b1⟩
 have z1 := b1.size
 simp at z1
 have rF : row w1 w.heap.size = (u8v dst ++ (u8v src ++ [Value.int .i64 2054, Value.string ⟨body.toArray⟩])).toArray := by rw [row_below b1 (by simp; try omega)]; simp [go_sem]
 have B1 : Below w.heap.size w w1 := Below.trans (by (repeat (first | exact Below.refl _ _ | refine Below.al ?_ _ | refine Below.drew ?_ | refine Below.sr ?_ _ | refine Below.sc ?_ _))) (b1.mono (by simp; try omega))
 clear b1
 obtain ⟨w2, hw2⟩ : ∃ v, w1.alloc (.cells (Value.int .i64 op :: (u8v mac ++ (u8v tgt ++ (u8v ip ++ u8v want)))).toArray 178) = v := ⟨_, rfl⟩
 have rA : row w2 w1.heap.size = (Value.int .i64 op :: (u8v mac ++ (u8v tgt ++ (u8v ip ++ u8v want)))).toArray := by rw [← hw2]; exact row_alloc_at _ _ _ rfl
 have z2 : w2.heap.size = w1.heap.size + 1 := by rw [← hw2]; exact alloc_sizeW _ _
 have B2 : Below w.heap.size w w2 := by rw [← hw2]; exact Below.alloc B1 (by omega) _
 replace rF : row w2 w.heap.size = (u8v dst ++ (u8v src ++ [Value.int .i64 2054, Value.string ⟨body.toArray⟩])).toArray := by rw [← hw2, row_alloc_past _ _ (by omega)]; exact rF
 cases h1 : (er == 0) with
 | false =>
  go_wp2_with fail
  clear hw2
  go_quiet (fail)
  go_wp2_with fail
  refine bodyPost_ret (results_2 rfl resOk_tmp resOk_tmp) rfl ?_
  exact ⟨by first | (simp [go_sem, *]; done) | (simp [go_sem]; simp_all), below_drewN B2 _⟩
 | true =>
  cases h2 : (op == 1) with
  | false =>
   go_wp2_with fail
   clear hw2
   go_quiet (fail)
   go_wp2_with fail
   refine bodyPost_ret (results_2 rfl resOk_tmp resOk_tmp) rfl ?_
   exact ⟨by first | (simp [go_sem, *]; done) | (simp [go_sem]; simp_all), below_drewN B2 _⟩
  | true =>
   cases h3 : (want != ip) with
   | false =>
    have h4 : (want == ip) = true := by simpa [bne] using h3
    go_wp2_with fail
    clear hw2
    go_quiet (fail)
    go_wp2_with fail
    refine bodyPost_ret (results_2 rfl resOk_tmp resOk_tmp) rfl ?_
    exact ⟨by first | (simp [go_sem, *]; done) | (simp [go_sem]; simp_all), below_drewN B2 _⟩
   | true =>
    have h4 : (want == ip) = false := by simpa [bne] using h3
    go_wp2_with fail
    clear hw2
    go_quiet (fail)
    go_wp2_with fail
    refine bodyPost_ret (results_2 rfl resOk_tmp resOk_tmp) rfl ?_
    exact ⟨by first | (simp [go_sem, *]; done) | (simp [go_sem]; simp_all), below_drewN B2 _⟩
set_option maxRecDepth 20000 in
set_option maxHeartbeats 2000000 in
theorem rAsk_nd (op : Int) (fr to ab : Vector UInt8 16) (mac : Vector UInt8 6) (has : Bool) (fl : Vector UInt8 4) (er : Int) (HP : ParsesR body (ndV op fr to ab mac has fl) er) : RAskC dst src 34525 body ab.toList ((er == 0) && (op == 1) && (fr != Vector.replicate 16 0)) := by
 unfold ParsesR ndV at HP
 have K := Lib.hid HP
 clear HP
 intro w
 unfold frameV
 go_enter Tryz.func44, Tryz.ntmps44
 go_wp2_with fail
 (with_reducible refine (K.out _).mono ?_)
 rintro e w1 ⟨rfl, b1⟩
 have z1 := b1.size
 simp at z1
 have rF : row w1 w.heap.size = (u8v dst ++ (u8v src ++ [Value.int .i64 34525, Value.string ⟨body.toArray⟩])).toArray := by rw [row_below b1 (by simp; try omega)]; simp [go_sem]
 have B1 : Below w.heap.size w w1 := Below.trans (by (repeat (first | exact Below.refl _ _ | refine Below.al ?_ _ | refine Below.drew ?_ | refine Below.sr ?_ _ | refine Below.sc ?_ _))) (b1.mono (by simp; try omega))
 clear b1
 obtain ⟨w2, hw2⟩ : ∃ v, w1.alloc (.cells (Value.int .i64 op :: (u8v fr ++ (u8v to ++ (u8v ab ++ (u8v mac ++ (Value.bool has :: u8v fl)))))).toArray 181) = v := ⟨_, rfl⟩
 have rA : row w2 w1.heap.size = (Value.int .i64 op :: (u8v fr ++ (u8v to ++ (u8v ab ++ (u8v mac ++ (Value.bool has :: u8v fl)))))).toArray := by rw [← hw2]; exact row_alloc_at _ _ _ rfl
 have z2 : w2.heap.size = w1.heap.size + 1 := by rw [← hw2]; exact alloc_sizeW _ _
 have B2 : Below w.heap.size w w2 := by rw [← hw2]; exact Below.alloc B1 (by omega) _
 replace rF : row w2 w.heap.size = (u8v dst ++ (u8v src ++ [Value.int .i64 34525, Value.string ⟨body.toArray⟩])).toArray := by rw [← hw2, row_alloc_past _ _ (by omega)]; exact rF
 cases h1 : (er == 0) with
 | false =>
  go_wp2_with fail
  clear hw2
  go_quiet (fail)
  go_wp2_with fail
  refine bodyPost_ret (results_2 rfl resOk_tmp resOk_tmp) rfl ?_
  exact ⟨by first | (simp [go_sem, *]; done) | (simp [go_sem]; simp_all), below_drewN B2 _⟩
 | true =>
  cases h2 : (op == 1) with
  | false =>
   go_wp2_with fail
   clear hw2
   go_quiet (fail)
   go_wp2_with fail
   refine bodyPost_ret (results_2 rfl resOk_tmp resOk_tmp) rfl ?_
   exact ⟨by first | (simp [go_sem, *]; done) | (simp [go_sem]; simp_all), below_drewN B2 _⟩
  | true =>
   cases h3 : (fr != Vector.replicate 16 0) with
   | false =>
    have h4 : (fr == Vector.replicate 16 0) = true := by simpa [bne] using h3
    go_wp2_with fail
    clear hw2
    go_quiet (fail)
    go_wp2_with fail
    refine bodyPost_ret (results_2 rfl resOk_tmp resOk_tmp) rfl ?_
    exact ⟨by first | (simp [go_sem, *]; done) | (simp [go_sem]; simp_all), below_drewN B2 _⟩
   | true =>
    have h4 : (fr == Vector.replicate 16 0) = false := by simpa [bne] using h3
    go_wp2_with fail
    clear hw2
    go_quiet (fail)
    go_wp2_with fail
    refine bodyPost_ret (results_2 rfl resOk_tmp resOk_tmp) rfl ?_
    exact ⟨by first | (simp [go_sem, *]; done) | (simp [go_sem]; simp_all), below_drewN B2 _⟩
end
end Go.Proofs.YtckckabedgpbiaaGreat
