/- Contracts of the reference of chapter 4: two numbers of bytes multiplied. -/
import Derived.Test.YtjeclimoknilcaaRfN
set_option linter.unusedSimpArgs false
set_option linter.unusedVariables false
namespace Go.Proofs.Ytjeclimoknilcaa
open Go.RowKit
set_option maxRecDepth 20000 in
set_option maxHeartbeats 2000000 in
theorem timesR_any (a b : List Nat) (ga ca gb cb : Nat) (sa sb : List Value) (w : World) (hra : row w ga = (i64s a ++ sa).toArray) (hrb : row w gb = (i64s b ++ sb).toArray)
    (za : ga < w.heap.size) (zb : gb < w.heap.size) (a0 : a ≠ []) (da : Dig a) (db : Dig b) (la : a.length ≤ 1000) (lb : b.length ≤ 1000) :
    Calls Try.prog 41 #[.slice (some ⟨ga, 0, none⟩) a.length ca, .slice (some ⟨gb, 0, none⟩) b.length cb] w fun e w' => ∃ v l, e = .returned v ∧ Own w' w.heap.size 3 v (i64s l) ∧ l.length = a.length + b.length ∧ Dig l ∧ valN l = valN a * valN b ∧ Below w.heap.size w w' := by
  obtain ⟨N, hN⟩ : ∃ N, a.length + b.length = N := ⟨_, rfl⟩
  have hNI : IntKind.i64.wrap ((a.length : Int) + (b.length : Int)) = (N : Int) := wrapN _ _ (by omega) (by omega)
  have hN2 : (N : Int) ≤ 2000 := by omega
  have hN0 : 0 < N := by have := List.length_pos_iff.2 a0; omega
  obtain ⟨w1, hmk, o1, b1⟩ := make_own (P := Try.prog) (w := w) (t := 71) inferInstance .i64 .i64 N (by omega)
  obtain ⟨X, hX⟩ : ∃ X, w.heap.size = X := ⟨_, rfl⟩
  rw [hX] at hmk o1 b1 za zb ⊢
  have o1 : Own w1 X 3 (.slice (some ⟨X, 0, none⟩) N N) (i64s (List.replicate N 0)) := by
    have e : List.replicate N (Value.int .i64 0) = i64s (List.replicate N 0) := by simp [i64s]
    rw [e] at o1
    exact o1
  have zX0 : X ≤ w.heap.size := by omega
  clear hX
  go_enter Try.func41, Try.ntmps41
  go_wp2_with fail
  go_loopw [6] (fun i wr => ∃ (n : Nat) (l : List Nat), n ≤ a.length ∧ i = .int .i64 n ∧ l.length = N ∧ Dig l ∧ valN l = valN (a.take n) * valN b ∧ (∀ k, n + b.length ≤ k → l.getD k 0 = 0) ∧ Own wr X 3 (.slice (some ⟨X, 0, none⟩) N N) (i64s l) ∧ Below X w wr) (fun i _ => a.length - (intOf i).toNat)
  case atStart => exact ⟨0, List.replicate N 0, by omega, rfl, by simp, Dig.zeros N, by rw [valN_zeros]; simp [valN], fun k _ => by simp [List.getD_eq_getElem?_getD, List.getElem?_replicate]; split <;> rfl, o1, b1⟩
  case round =>
    clear o1 b1
    obtain ⟨n, l, hna, rfl, hll, hd, hval, hzer, hown, hbel⟩ := hrel
    have hsz := hbel.size
    by_cases hlt : n < a.length
    · have ja : (n : Int) < a.length := by omega
      obtain ⟨x, hx⟩ : ∃ v, a[n] = v := ⟨_, rfl⟩
      have vx : x < 256 := by rw [← hx]; exact da.get n hlt
      have ux : n < a.length + sa.length := by omega
      have tx : (i64s a ++ sa)[n]'(by simp; omega) = .int .i64 (x : Int) := by rw [List.getElem_append_left (by simpa using hlt), i64s_get, hx]
      have hG : a.getD n 0 = x := by rw [getD_at _ _ hlt]; exact hx
      have hT := valN_take_succ a n
      rw [hG] at hT
      have HT := Lib.hid hT
      have HV := Lib.hid hval
      have HZ := Lib.hid hzer
      clear hT hG hval hzer
      go_wp2_with fail
      go_loopw [7, 8] (fun c j wq => ∃ (m k : Nat) (l' : List Nat), m ≤ b.length ∧ j = .int .i64 m ∧ c = .int .i64 k ∧ k ≤ 255 ∧ l'.length = N ∧ Dig l' ∧ valN l' + 256 ^ (n + m) * k = valN l + 256 ^ n * (x * valN (b.take m)) ∧ (∀ i, n + b.length ≤ i → l'.getD i 0 = 0) ∧ Own wq X 3 (.slice (some ⟨X, 0, none⟩) N N) (i64s l') ∧ Below X w wq) (fun _ j _ => b.length - (intOf j).toNat)
      case atStart => exact ⟨0, 0, l, by omega, rfl, rfl, by omega, hll, hd, by simp [valN], HZ.out, hown, hbel⟩
      case round =>
        clear hown hbel hsz hd hll
        obtain ⟨m, k, l', hmb, rfl, rfl, hk, hll, hd, hval, hzer, hown, hbel⟩ := hrel
        have hsz := hbel.size
        have ra := (row_below hbel za).trans hra
        have rb := (row_below hbel zb).trans hrb
        have za2 : ga < wr.heap.size := by omega
        have zb2 : gb < wr.heap.size := by omega
        obtain ⟨rX, zX, _⟩ := hown.full
        have HV2 := Lib.hid hval
        have HZ2 := Lib.hid hzer
        clear hval hzer
        by_cases hlt2 : m < b.length
        · have jb : (m : Int) < b.length := by omega
          obtain ⟨y, hy⟩ : ∃ v, b[m] = v := ⟨_, rfl⟩
          have vy : y < 256 := by rw [← hy]; exact db.get m hlt2
          have uy : m < b.length + sb.length := by omega
          have ty : (i64s b ++ sb)[m]'(by simp; omega) = .int .i64 (y : Int) := by rw [List.getElem_append_left (by simpa using hlt2), i64s_get, hy]
          have hG : b.getD m 0 = y := by rw [getD_at _ _ hlt2]; exact hy
          have hT2 := valN_take_succ b m
          rw [hG] at hT2
          obtain ⟨p, hp⟩ : ∃ p, n + m = p := ⟨_, rfl⟩
          have hpN : p < N := by omega
          have hpI : (p : Int) < N := by omega
          have hpl : p < l'.length := by omega
          have fp : IntKind.i64.wrap ((n : Int) + (m : Int)) = (p : Int) := wrapN _ _ (by omega) (by omega)
          obtain ⟨O, hO⟩ : ∃ O, l'[p] = O := ⟨_, rfl⟩
          have vO : O < 256 := by rw [← hO]; exact hd.get p hpl
          obtain ⟨z, hz⟩ : ∃ z, x * y = z := ⟨_, rfl⟩
          have vz : z ≤ 65025 := by rw [← hz]; exact Nat.mul_le_mul (show x ≤ 255 by omega) (show y ≤ 255 by omega)
          obtain ⟨q0, hq0⟩ : ∃ q, k + O = q := ⟨_, rfl⟩
          obtain ⟨q, hq⟩ : ∃ v, q0 + z = v := ⟨_, rfl⟩
          have f1 : IntKind.i64.wrap ((k : Int) + (O : Int)) = (q0 : Int) := wrapN _ _ (by omega) (by omega)
          have f2 : IntKind.i64.wrap ((x : Int) * (y : Int)) = (z : Int) := wrapN _ _ (by rw [← hz]; simp) (by omega)
          have f3 : IntKind.i64.wrap ((q0 : Int) + (z : Int)) = (q : Int) := wrapN _ _ (by omega) (by omega)
          obtain ⟨d, hd2⟩ : ∃ v, q % 256 = v := ⟨_, rfl⟩
          obtain ⟨k2, hk2⟩ : ∃ v, q / 256 = v := ⟨_, rfl⟩
          obtain ⟨m1, m2⟩ := modt _ _ hd2
          obtain ⟨m3, m4⟩ := divt _ _ hk2
          have hk3 : k2 ≤ 255 := by omega
          have hd3 : d < 256 := by omega
          have hs : valN (l'.set p d) + 256 ^ (n + (m + 1)) * k2 = valN l + 256 ^ n * (x * valN (b.take (m + 1))) := by
            have hpp := hp
            subst hpp
            rw [hT2, ← hd2, ← hk2]
            exact times_step l' n m k x y _ _ q hpl (by rw [hO, hz, hq0, hq]) HV2.out
          have HS := Lib.hid hs
          have HP := Lib.hid hp
          clear hs hp hT2 hG hd2 hk2 hq hq0 hz
          go_wp2_with fail
          refine wp_region_beginR [(X, (i64s l').toArray), (ga, (i64s a ++ sa).toArray), (gb, (i64s b ++ sb).toArray)] rfl (by simp only [Rws]; (repeat (first | exact trivial | refine ⟨(by first | assumption | (simp [go_sem, *]; done)), (by first | omega | (simp; done) | (simp; omega)), ?_⟩))) (fun hS => ?_)
          refine wpAnyR_take (i := 0) (v := ?_) (by simp only [List.getElem?_toArray, List.getElem?_cons_succ, List.getElem?_cons_zero]; rfl) (by kernel_rfl) (by kernel_rfl) (by kernel_rfl) (by first | exact fun _ _ _ h => h | exact fun _ _ _ h => by cases h.1) (Rws.grow _) (Or.inl ⟨by rfl, ?_⟩) hS ?_
          rotate_left
          · intro w' hS'
            simp only [Rws] at hS'
            go_simp
            refine ⟨?_, Below.refl _ _⟩
            rfl
          (try simp only [Act.put, List.setIfInBounds_toArray, List.set_cons_zero, List.set_cons_succ])
          refine wpAnyR_take (i := 1) (v := ?_) (by simp only [List.getElem?_toArray, List.getElem?_cons_succ, List.getElem?_cons_zero]; rfl) (by kernel_rfl) (by kernel_rfl) (by kernel_rfl) (by first | exact fun _ _ _ h => h | exact fun _ _ _ h => by cases h.1) (Rws.grow _) (Or.inl ⟨by rfl, ?_⟩) hS ?_
          rotate_left
          · intro w' hS'
            simp only [Rws] at hS'
            go_simp
            refine ⟨?_, Below.refl _ _⟩
            rfl
          (try simp only [Act.put, List.setIfInBounds_toArray, List.set_cons_zero, List.set_cons_succ])
          refine wpAnyR_take (i := 2) (v := ?_) (by simp only [List.getElem?_toArray, List.getElem?_cons_succ, List.getElem?_cons_zero]; rfl) (by kernel_rfl) (by kernel_rfl) (by kernel_rfl) (by first | exact fun _ _ _ h => h | exact fun _ _ _ h => by cases h.1) (Rws.grow _) (Or.inl ⟨by rfl, ?_⟩) hS ?_
          rotate_left
          · intro w' hS'
            simp only [Rws] at hS'
            go_simp
            refine ⟨?_, Below.refl _ _⟩
            rfl
          (try simp only [Act.put, List.setIfInBounds_toArray, List.set_cons_zero, List.set_cons_succ])
          refine wpAnyR_take (i := 3) (v := ?_) (by simp only [List.getElem?_toArray, List.getElem?_cons_succ, List.getElem?_cons_zero]; rfl) (by kernel_rfl) (by kernel_rfl) (by kernel_rfl) (by first | exact fun _ _ _ h => h | exact fun _ _ _ h => by cases h.1) (Rws.grow _) (Or.inl ⟨by rfl, ?_⟩) hS ?_
          rotate_left
          · intro w' hS'
            simp only [Rws] at hS'
            go_simp
            refine ⟨?_, Below.refl _ _⟩
            rfl
          (try simp only [Act.put, List.setIfInBounds_toArray, List.set_cons_zero, List.set_cons_succ])
          refine wpAnyR_take (i := 4) (v := ?_) (by simp only [List.getElem?_toArray, List.getElem?_cons_succ, List.getElem?_cons_zero]; rfl) (by kernel_rfl) (by kernel_rfl) (by kernel_rfl) (by first | exact fun _ _ _ h => h | exact fun _ _ _ h => by cases h.1) (Rws.grow _) (Or.inl ⟨by rfl, ?_⟩) hS ?_
          rotate_left
          · intro w' hS'
            simp only [Rws] at hS'
            go_simp
            refine ⟨?_, Below.refl _ _⟩
            rfl
          (try simp only [Act.put, List.setIfInBounds_toArray, List.set_cons_zero, List.set_cons_succ])
          refine wpAnyR_take (i := 5) (v := ?_) (by simp only [List.getElem?_toArray, List.getElem?_cons_succ, List.getElem?_cons_zero]; rfl) (by kernel_rfl) (by kernel_rfl) (by kernel_rfl) (by first | exact fun _ _ _ h => h | exact fun _ _ _ h => by cases h.1) (Rws.grow _) (Or.inl ⟨by rfl, ?_⟩) hS ?_
          rotate_left
          · intro w' hS'
            simp only [Rws] at hS'
            go_simp
            refine ⟨?_, Below.refl _ _⟩
            rfl
          (try simp only [Act.put, List.setIfInBounds_toArray, List.set_cons_zero, List.set_cons_succ])
          refine wpAnyR_take (i := 6) (v := ?_) (by simp only [List.getElem?_toArray, List.getElem?_cons_succ, List.getElem?_cons_zero]; rfl) (by kernel_rfl) (by kernel_rfl) (by kernel_rfl) (by first | exact fun _ _ _ h => h | exact fun _ _ _ h => by cases h.1) (Rws.grow _) (Or.inl ⟨by rfl, ?_⟩) hS ?_
          rotate_left
          · intro w' hS'
            simp only [Rws] at hS'
            go_simp
            refine ⟨?_, Below.refl _ _⟩
            rfl
          (try simp only [Act.put, List.setIfInBounds_toArray, List.set_cons_zero, List.set_cons_succ])
          refine wpAnyR_take (i := 7) (v := ?_) (by simp only [List.getElem?_toArray, List.getElem?_cons_succ, List.getElem?_cons_zero]; rfl) (by kernel_rfl) (by kernel_rfl) (by kernel_rfl) (by first | exact fun _ _ _ h => h | exact fun _ _ _ h => by cases h.1) (Rws.grow _) (Or.inl ⟨by rfl, ?_⟩) hS ?_
          rotate_left
          · intro w' hS'
            simp only [Rws] at hS'
            go_simp
            refine ⟨?_, Below.refl _ _⟩
            rfl
          (try simp only [Act.put, List.setIfInBounds_toArray, List.set_cons_zero, List.set_cons_succ])
          refine wpAnyR_take (i := 8) (v := ?_) (by simp only [List.getElem?_toArray, List.getElem?_cons_succ, List.getElem?_cons_zero]; rfl) (by kernel_rfl) (by kernel_rfl) (by kernel_rfl) (by first | exact fun _ _ _ h => h | exact fun _ _ _ h => by cases h.1) (Rws.grow _) (Or.inl ⟨by rfl, ?_⟩) hS ?_
          rotate_left
          · intro w' hS'
            simp only [Rws] at hS'
            go_simp
            refine ⟨?_, Below.refl _ _⟩
            rfl
          (try simp only [Act.put, List.setIfInBounds_toArray, List.set_cons_zero, List.set_cons_succ])
          refine wpAnyR_take (i := 9) (v := ?_) (by simp only [List.getElem?_toArray, List.getElem?_cons_succ, List.getElem?_cons_zero]; rfl) (by kernel_rfl) (by kernel_rfl) (by kernel_rfl) (by first | exact fun _ _ _ h => h | exact fun _ _ _ h => by cases h.1) (Rws.grow _) (Or.inl ⟨by rfl, ?_⟩) hS ?_
          rotate_left
          · intro w' hS'
            simp only [Rws] at hS'
            go_simp
            refine ⟨?_, Below.refl _ _⟩
            rfl
          (try simp only [Act.put, List.setIfInBounds_toArray, List.set_cons_zero, List.set_cons_succ])
          refine wpAnyR_take (i := 10) (v := ?_) (by simp only [List.getElem?_toArray, List.getElem?_cons_succ, List.getElem?_cons_zero]; rfl) (by kernel_rfl) (by kernel_rfl) (by kernel_rfl) (by first | exact fun _ _ _ h => h | exact fun _ _ _ h => by cases h.1) (Rws.grow _) (Or.inl ⟨by rfl, ?_⟩) hS ?_
          rotate_left
          · intro w' hS'
            simp only [Rws] at hS'
            go_simp
            refine ⟨?_, Below.refl _ _⟩
            rfl
          (try simp only [Act.put, List.setIfInBounds_toArray, List.set_cons_zero, List.set_cons_succ])
          refine wpAnyR_take (i := 11) (v := ?_) (by simp only [List.getElem?_toArray, List.getElem?_cons_succ, List.getElem?_cons_zero]; rfl) (by kernel_rfl) (by kernel_rfl) (by kernel_rfl) (by first | exact fun _ _ _ h => h | exact fun _ _ _ h => by cases h.1) (Rws.grow _) (Or.inl ⟨by rfl, ?_⟩) hS ?_
          rotate_left
          · intro w' hS'
            simp only [Rws] at hS'
            go_simp
            refine ⟨?_, Below.refl _ _⟩
            rfl
          (try simp only [Act.put, List.setIfInBounds_toArray, List.set_cons_zero, List.set_cons_succ])
          refine wpAnyR_take (i := 12) (v := ?_) (by simp only [List.getElem?_toArray, List.getElem?_cons_succ, List.getElem?_cons_zero]; rfl) (by kernel_rfl) (by kernel_rfl) (by kernel_rfl) (by first | exact fun _ _ _ h => h | exact fun _ _ _ h => by cases h.1) (Rws.grow _) (Or.inl ⟨by rfl, ?_⟩) hS ?_
          rotate_left
          · intro w' hS'
            simp only [Rws] at hS'
            go_simp
            refine ⟨?_, Below.refl _ _⟩
            rfl
          (try simp only [Act.put, List.setIfInBounds_toArray, List.set_cons_zero, List.set_cons_succ])
          refine wpAnyR_take (i := 13) (v := ?_) (by simp only [List.getElem?_toArray, List.getElem?_cons_succ, List.getElem?_cons_zero]; rfl) (by kernel_rfl) (by kernel_rfl) (by kernel_rfl) (by first | exact fun _ _ _ h => h | exact fun _ _ _ h => by cases h.1) (Rws.grow _) (Or.inl ⟨by rfl, ?_⟩) hS ?_
          rotate_left
          · intro w' hS'
            simp only [Rws] at hS'
            go_simp
            refine ⟨?_, Below.refl _ _⟩
            rfl
          (try simp only [Act.put, List.setIfInBounds_toArray, List.set_cons_zero, List.set_cons_succ])
          refine wpAnyR_take (i := 14) (v := ?_) (by simp only [List.getElem?_toArray, List.getElem?_cons_succ, List.getElem?_cons_zero]; rfl) (by kernel_rfl) (by kernel_rfl) (by kernel_rfl) (by first | exact fun _ _ _ h => h | exact fun _ _ _ h => by cases h.1) (Rws.grow _) (Or.inl ⟨by rfl, ?_⟩) hS ?_
          rotate_left
          · intro w' hS'
            simp only [Rws] at hS'
            go_simp
            refine ⟨?_, Below.refl _ _⟩
            rfl
          (try simp only [Act.put, List.setIfInBounds_toArray, List.set_cons_zero, List.set_cons_succ])
          refine wpAnyR_take (i := 15) (v := ?_) (by simp only [List.getElem?_toArray, List.getElem?_cons_succ, List.getElem?_cons_zero]; rfl) (by kernel_rfl) (by kernel_rfl) (by kernel_rfl) (by first | exact fun _ _ _ h => h | exact fun _ _ _ h => by cases h.1) (Rws.grow _) (Or.inl ⟨by rfl, ?_⟩) hS ?_
          rotate_left
          · intro w' hS'
            simp only [Rws] at hS'
            go_simp
            refine ⟨?_, Below.refl _ _⟩
            rfl
          (try simp only [Act.put, List.setIfInBounds_toArray, List.set_cons_zero, List.set_cons_succ])
          refine wpAnyR_take (i := 16) (v := ?_) (by simp only [List.getElem?_toArray, List.getElem?_cons_succ, List.getElem?_cons_zero]; rfl) (by kernel_rfl) (by kernel_rfl) (by kernel_rfl) (by first | exact fun _ _ _ h => h | exact fun _ _ _ h => by cases h.1) (Rws.grow _) (Or.inl ⟨by rfl, ?_⟩) hS ?_
          rotate_left
          · intro w' hS'
            simp only [Rws] at hS'
            go_simp
            refine ⟨?_, Below.refl _ _⟩
            rfl
          (try simp only [Act.put, List.setIfInBounds_toArray, List.set_cons_zero, List.set_cons_succ])
          refine wpAnyR_take (i := 17) (v := ?_) (by simp only [List.getElem?_toArray, List.getElem?_cons_succ, List.getElem?_cons_zero]; rfl) (by kernel_rfl) (by kernel_rfl) (by kernel_rfl) (by first | exact fun _ _ _ h => h | exact fun _ _ _ h => by cases h.1) (Rws.grow _) (Or.inl ⟨by rfl, ?_⟩) hS ?_
          rotate_left
          · intro w' hS'
            simp only [Rws] at hS'
            go_simp
            refine ⟨?_, Below.refl _ _⟩
            rfl
          (try simp only [Act.put, List.setIfInBounds_toArray, List.set_cons_zero, List.set_cons_succ])
          refine wpAnyR_take (i := 18) (v := ?_) (by simp only [List.getElem?_toArray, List.getElem?_cons_succ, List.getElem?_cons_zero]; rfl) (by kernel_rfl) (by kernel_rfl) (by kernel_rfl) (by first | exact fun _ _ _ h => h | exact fun _ _ _ h => by cases h.1) (Rws.grow _) (Or.inl ⟨by rfl, ?_⟩) hS ?_
          rotate_left
          · intro w' hS'
            simp only [Rws] at hS'
            go_simp
            refine ⟨?_, Below.refl _ _⟩
            rfl
          (try simp only [Act.put, List.setIfInBounds_toArray, List.set_cons_zero, List.set_cons_succ])
          refine wpAnyR_done (by kernel_rfl) (fun w2 b2 => ?_) _
          replace b2 : Below (wr).heap.size (wr) w2 := below_step (Below.drew (Below.refl _ _)) b2
          have o2 := hown.below b2
          have z2 := b2.size
          obtain ⟨rX2, zX2, _⟩ := o2.full
          have o3 := o2.setFull (u := .int .i64 (d : Int)) (j := p) (by simpa using hpl)
          have b3 : Below X w (w2.setRow X ((i64s l').set p (.int .i64 (d : Int))).toArray) := Below.setRow (hbel.trans (b2.mono (by omega))) (Nat.le_refl _) _
          rw [i64s_set] at o3 b3
          clear b2 o2 rX hown hbel ra rb
          go_wp2_with fail
          go_roundw
          case rel => exact ⟨m + 1, k2, l'.set p d, by omega, rfl, rfl, hk3, by simpa using hll, hd.set _ hd3, HS.out, fun i hi => by rw [getD_setN _ _ _ _ hpl, if_neg (by have := HP.out; omega)]; exact HZ2.out i hi, o3, b3⟩
          case measure => simp [intOf]; omega
        · obtain rfl : m = b.length := by omega
          have jb : ¬ (b.length : Int) < b.length := by omega
          obtain ⟨p, hp⟩ : ∃ p, n + b.length = p := ⟨_, rfl⟩
          have hpN : p < N := by omega
          have hpI : (p : Int) < N := by omega
          have hpl : p < l'.length := by omega
          have fp : IntKind.i64.wrap ((n : Int) + (b.length : Int)) = (p : Int) := wrapN _ _ (by omega) (by omega)
          have hO : l'[p] = 0 := by rw [← getD_at _ _ hpl]; exact HZ2.out p (by omega)
          have hs : valN (l'.set p k) = valN (a.take (n + 1)) * valN b := by
            have h1 := HV2.out
            rw [hp, List.take_of_length_le (Nat.le_refl _), HV.out] at h1
            rw [times_end l' p k _ hpl hO h1, HT.out, Nat.add_mul, Nat.mul_assoc]
          have HS := Lib.hid hs
          have HP := Lib.hid hp
          have o3 := hown.setFull (u := .int .i64 (k : Int)) (j := p) (by simpa using hpl)
          have b3 : Below X w (wr.setRow X ((i64s l').set p (.int .i64 (k : Int))).toArray) := Below.setRow hbel (Nat.le_refl _) _
          rw [i64s_set] at o3 b3
          clear hs hp hO ra rb hbel hown
          go_wp2_with fail
          go_roundw
          case rel => exact ⟨n + 1, l'.set p k, by omega, rfl, by simpa using hll, hd.set _ (by omega), HS.out, fun i hi => by rw [getD_setN _ _ _ _ hpl, if_neg (by have := HP.out; omega)]; exact HZ2.out i (by omega), o3, b3⟩
          case measure => simp [intOf]; omega
    · obtain rfl : n = a.length := by omega
      go_wp2_with fail
      go_ret
      refine ⟨_, l, rfl, hown, by omega, hd, ?_, hbel⟩
      rw [hval, List.take_of_length_le (Nat.le_refl _)]
end Go.Proofs.Ytjeclimoknilcaa
