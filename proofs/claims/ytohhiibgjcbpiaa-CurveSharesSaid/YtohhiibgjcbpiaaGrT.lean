/- Contracts of the reference of chapter 6: a product of elements. -/
import Derived.Test.YtohhiibgjcbpiaaGrR
import Derived.Test.YtohhiibgjcbpiaaGrD
set_option linter.unusedSimpArgs false
set_option linter.unusedVariables false
namespace Go.Proofs.Ytohhiibgjcbpiaa
open Go.RowKit
theorem rest_fun (l : List Nat) (g0 c0 : Nat) (s0 : List Value) (w : World) (hr : row w g0 = (n64s l ++ s0).toArray) (z0 : g0 < w.heap.size) (l0 : 0 < l.length) (l1 : l.length ≤ 65) (dl : Dig l) :
    Calls Try.prog 26 #[.slice (some ⟨g0, 0, none⟩) l.length c0] w fun e w' => e = .returned (.agg (n64s (digB (valB l % pB))).toArray) ∧ Below w.heap.size w w' := by
  refine (restG_any l g0 c0 s0 w hr z0 l0 l1 dl).mono ?_
  rintro e w' ⟨r, rfl, h1, h2, h3, h4⟩
  refine ⟨?_, h4⟩
  rw [eq_digB r h1 h2, h3]
  rfl
theorem getD_zerosG (n i : Nat) : (List.replicate n 0).getD i 0 = 0 := by
  rw [List.getD_eq_getElem?_getD, List.getElem?_replicate]
  split <;> rfl
set_option maxRecDepth 20000 in
set_option maxHeartbeats 4000000 in
theorem timesG_any (u v : Nat) (w : World) (hu : u < 256 ^ 32) (hv : v < 256 ^ 32) :
    Calls Try.prog 18 #[.agg (n64s (digB u)).toArray, .agg (n64s (digB v)).toArray] w fun e w' => e = .returned (.agg (n64s (digB (u * v % pB))).toArray) ∧ Below w.heap.size w w' := by
  have hau := valB_digB u hu
  have hbv := valB_digB v hv
  have la := digB_length u
  have lb := digB_length v
  have da := digB_dig u
  have db := digB_dig v
  have huv := mul_lt64 u v hu hv
  obtain ⟨a, ea⟩ : ∃ a, digB u = a := ⟨_, rfl⟩
  obtain ⟨b, eb⟩ : ∃ a, digB v = a := ⟨_, rfl⟩
  rw [ea] at hau la da ⊢
  rw [eb] at hbv lb db ⊢
  have HAU := Lib.hid hau
  have HBV := Lib.hid hbv
  have HUV := Lib.hid huv
  have LA := Lib.hid la
  have LB := Lib.hid lb
  have la32 : 32 ≤ a.length := by omega
  have lb32 : 32 ≤ b.length := by omega
  have ta32 : a.take 32 = a := List.take_of_length_le (by omega)
  have tb32 : b.take 32 = b := List.take_of_length_le (by omega)
  have TA := Lib.hid ta32
  have TB := Lib.hid tb32
  clear ea eb hau hbv huv hu hv ta32 tb32
  obtain ⟨w0, hw0⟩ : ∃ v, ((w.alloc (.cells (n64s a).toArray 30)).alloc (.cells (n64s b).toArray 30)).alloc (.cells (zeros 32 (Value.int .i64 0)).toArray 30) = v := ⟨_, rfl⟩
  obtain ⟨X, hX⟩ : ∃ X, w.heap.size + 1 + 1 + 1 = X := ⟨_, rfl⟩
  have z0 : w0.heap.size = X := by rw [← hw0, ← hX]; simp
  have ra0 : row w0 w.heap.size = (n64s a).toArray := by rw [← hw0]; simp [go_sem]
  have rb0 : row w0 (w.heap.size + 1) = (n64s b).toArray := by rw [← hw0]; simp [go_sem]
  have rR0 : row w0 (w.heap.size + 1 + 1) = (zeros 32 (Value.int .i64 0)).toArray := by rw [← hw0]; simp [go_sem]
  have b0 : Below w.heap.size w w0 := by
    rw [← hw0]
    (repeat (first | exact Below.refl _ _ | refine Below.alloc ?_ (by first | (simp; done) | (simp; omega) | omega) _ | refine Below.drew ?_ | refine Below.setRow ?_ (by first | (simp; done) | (simp; omega) | omega) _ | refine Below.setCell ?_ (by first | (simp; done) | (simp; omega) | omega) _))
  obtain ⟨w1, hmk0, o1, b1⟩ := make_own (P := Try.prog) (w := w0) (t := 47) inferInstance .i64 .i64 65 (by omega)
  rw [z0] at hmk0 o1 b1
  have hmk : (Instr.makeSlice 47 (.int .i64 65) (.int .i64 65)).run Try.prog w0 = .ok (.slice (some ⟨X, 0, none⟩) 65 65) w1 := hmk0
  have o1 : Own w1 X 3 (.slice (some ⟨X, 0, none⟩) 65 65) (n64s (List.replicate 65 0)) := by
    have e : List.replicate 65 (Value.int .i64 0) = n64s (List.replicate 65 0) := by simp [n64s]
    rw [e] at o1
    exact o1
  have zX : w.heap.size + 3 ≤ X := by omega
  have ra1 := (row_below b1 (by omega)).trans ra0
  have rb1 := (row_below b1 (by omega)).trans rb0
  have rR1 := (row_below b1 (by omega)).trans rR0
  have z1 : X ≤ w1.heap.size := by have := b1.size; omega
  have bw1 : Below w.heap.size w w1 := b0.trans (b1.mono (by omega))
  clear hX hmk0 z0 ra0 rb0 rR0 b0 b1 la lb
  go_enter Try.func18, Try.ntmps18
  go_wp2_with fail
  go_loopw [6] (fun i wr => ∃ (n : Nat) (l : List Nat), n ≤ 32 ∧ i = .int .i64 n ∧ l.length = 65 ∧ (∀ i, l.getD i 0 ≤ 65025 * (32 * n)) ∧ valB l = valB (a.take n) * valB b ∧ Own wr X 3 (.slice (some ⟨X, 0, none⟩) 65 65) (n64s l) ∧ Below X w1 wr) (fun i _ => 32 - (intOf i).toNat)
  case atStart => exact ⟨0, List.replicate 65 0, by omega, rfl, by simp, fun i => by rw [getD_zerosG]; omega, by rw [valB_zeros]; simp [valB], o1, by skip; exact Below.refl _ _⟩
  case round =>
    clear o1
    obtain ⟨n, l, hn, rfl, hll, hbd, hval, hown, hbel⟩ := hrel
    have hsz := hbel.size
    by_cases hlt : n < 32
    · have jn : (n : Int) < 32 := by omega
      have hna : n < a.length := by omega
      obtain ⟨x, hx⟩ : ∃ v, a[n] = v := ⟨_, rfl⟩
      have vx : x < 256 := by rw [← hx]; exact da.get n hna
      have hT := valB_take_succ a n
      rw [getD_at _ _ hna, hx] at hT
      have HT := Lib.hid hT
      have HV := Lib.hid hval
      clear hT hval
      go_wp2_with fail
      go_loopw [7] (fun j wq => ∃ (m : Nat) (l' : List Nat), m ≤ 32 ∧ j = .int .i64 m ∧ l'.length = 65 ∧ (∀ i, l'.getD i 0 ≤ 65025 * (32 * n + m)) ∧ valB l' = valB l + 256 ^ n * (x * valB (b.take m)) ∧ Own wq X 3 (.slice (some ⟨X, 0, none⟩) 65 65) (n64s l') ∧ Below X w1 wq) (fun j _ => 32 - (intOf j).toNat)
      case atStart => exact ⟨0, l, by omega, rfl, hll, fun i => by have := hbd i; omega, by simp [valB], hown, hbel⟩
      case round =>
        clear hown hbel hsz hll hbd
        obtain ⟨m, l', hm, rfl, hll, hbd, hval, hown, hbel⟩ := hrel
        have hsz := hbel.size
        have HV2 := Lib.hid hval
        have HBD := Lib.hid hbd
        clear hval hbd
        by_cases hlt2 : m < 32
        · have jm : (m : Int) < 32 := by omega
          have hmb : m < b.length := by omega
          have ra := (row_below hbel (by omega)).trans ra1
          have rb := (row_below hbel (by omega)).trans rb1
          have za2 : w.heap.size < wr.heap.size := by omega
          have zb2 : w.heap.size + 1 < wr.heap.size := by omega
          obtain ⟨rX, zX2, _⟩ := hown.full
          obtain ⟨y, hy⟩ : ∃ v, b[m] = v := ⟨_, rfl⟩
          have vy : y < 256 := by rw [← hy]; exact db.get m hmb
          have hT2 := valB_take_succ b m
          rw [getD_at _ _ hmb, hy] at hT2
          obtain ⟨p, hp⟩ : ∃ p, n + m = p := ⟨_, rfl⟩
          have hp65 : p < 65 := by omega
          have hpI : (p : Int) < 65 := by omega
          have hpl : p < l'.length := by omega
          have fp : IntKind.i64.wrap ((n : Int) + (m : Int)) = (p : Int) := wrapN _ _ (by omega) (by omega)
          obtain ⟨O, hO⟩ : ∃ O, l'[p] = O := ⟨_, rfl⟩
          have vO : O ≤ 65025 * (32 * n + m) := by rw [← hO, ← getD_at _ _ hpl]; exact HBD.out p
          obtain ⟨z, hz⟩ : ∃ z, x * y = z := ⟨_, rfl⟩
          have vz : z ≤ 65025 := by rw [← hz]; exact Nat.mul_le_mul (show x ≤ 255 by omega) (show y ≤ 255 by omega)
          obtain ⟨q, hq⟩ : ∃ v, O + z = v := ⟨_, rfl⟩
          have f2 : IntKind.i64.wrap ((x : Int) * (y : Int)) = (z : Int) := wrapN _ _ (by rw [← hz]; simp) (by omega)
          have f3 : IntKind.i64.wrap ((O : Int) + (z : Int)) = (q : Int) := wrapN _ _ (by omega) (by omega)
          have hs : valB (l'.set p q) = valB l + 256 ^ n * (x * valB (b.take (m + 1))) := by
            have h1 := valB_add l' p z hpl
            rw [hO, hq] at h1
            rw [h1, HV2.out, hT2, ← hp, ← hz, Nat.pow_add, Nat.mul_add, Nat.mul_add, Nat.mul_left_comm x, Nat.mul_assoc, Nat.add_assoc]
          have hbd2 : ∀ i, (l'.set p q).getD i 0 ≤ 65025 * (32 * n + (m + 1)) := by
            intro i
            by_cases hi : p = i
            · subst hi
              rw [getD_at _ _ (by simpa using hpl), List.getElem_set_self]
              omega
            · rw [List.getD_eq_getElem?_getD, List.getElem?_set_ne hi, ← List.getD_eq_getElem?_getD]
              have := HBD.out i
              omega
          have HS := Lib.hid hs
          have HB2 := Lib.hid hbd2
          have hl2 : (l'.set p q).length = 65 := by rw [List.length_set]; exact hll
          have HL2 := Lib.hid hl2
          have hl0 : 0 < l'.length := by omega
          clear hs hp hT2 hq hz hbd2 hl2 hll vO
          go_wp2_with fail
          refine wp_region_beginK 19 [(w.heap.size, (n64s a).toArray), (w.heap.size + 1, (n64s b).toArray), (X, (n64s l').toArray)] [] rfl (by simp only [Rws]; (repeat (first | exact trivial | refine ⟨(by first | assumption | (simp [go_sem, *]; done)), (by first | omega | (simp; done) | (simp; omega)), ?_⟩))) (fun hS => ?_)
          refine wpAnyK_take (i := 0) (v := ?_) (by simp only [List.getElem?_toArray, List.getElem?_cons_succ, List.getElem?_cons_zero]; rfl) (by kernel_rfl) (by kernel_rfl) (by kernel_rfl) (by kernel_rfl) (by first | exact fun _ _ _ h => h | exact fun _ _ _ h => by cases h.1) (Rws.grow _) (Or.inl ⟨by rfl, ?_⟩) hS ?_
          rotate_left
          · intro w' hS'
            simp only [Rws] at hS'
            go_simp
            refine ⟨?_, Below.refl _ _⟩
            rfl
          (try simp only [Act.put, List.setIfInBounds_toArray, List.set_cons_zero, List.set_cons_succ])
          refine wpAnyK_take (i := 1) (v := ?_) (by simp only [List.getElem?_toArray, List.getElem?_cons_succ, List.getElem?_cons_zero]; rfl) (by kernel_rfl) (by kernel_rfl) (by kernel_rfl) (by kernel_rfl) (by first | exact fun _ _ _ h => h | exact fun _ _ _ h => by cases h.1) (Rws.grow _) (Or.inl ⟨by rfl, ?_⟩) hS ?_
          rotate_left
          · intro w' hS'
            simp only [Rws] at hS'
            go_simp
            refine ⟨?_, Below.refl _ _⟩
            rfl
          (try simp only [Act.put, List.setIfInBounds_toArray, List.set_cons_zero, List.set_cons_succ])
          refine wpAnyK_take (i := 2) (v := ?_) (by simp only [List.getElem?_toArray, List.getElem?_cons_succ, List.getElem?_cons_zero]; rfl) (by kernel_rfl) (by kernel_rfl) (by kernel_rfl) (by kernel_rfl) (by first | exact fun _ _ _ h => h | exact fun _ _ _ h => by cases h.1) (Rws.grow _) (Or.inl ⟨by rfl, ?_⟩) hS ?_
          rotate_left
          · intro w' hS'
            simp only [Rws] at hS'
            go_simp
            refine ⟨?_, Below.refl _ _⟩
            rfl
          (try simp only [Act.put, List.setIfInBounds_toArray, List.set_cons_zero, List.set_cons_succ])
          refine wpAnyK_take (i := 3) (v := ?_) (by simp only [List.getElem?_toArray, List.getElem?_cons_succ, List.getElem?_cons_zero]; rfl) (by kernel_rfl) (by kernel_rfl) (by kernel_rfl) (by kernel_rfl) (by first | exact fun _ _ _ h => h | exact fun _ _ _ h => by cases h.1) (Rws.grow _) (Or.inl ⟨by rfl, ?_⟩) hS ?_
          rotate_left
          · intro w' hS'
            simp only [Rws] at hS'
            go_simp
            refine ⟨?_, Below.refl _ _⟩
            rfl
          (try simp only [Act.put, List.setIfInBounds_toArray, List.set_cons_zero, List.set_cons_succ])
          refine wpAnyK_take (i := 4) (v := ?_) (by simp only [List.getElem?_toArray, List.getElem?_cons_succ, List.getElem?_cons_zero]; rfl) (by kernel_rfl) (by kernel_rfl) (by kernel_rfl) (by kernel_rfl) (by first | exact fun _ _ _ h => h | exact fun _ _ _ h => by cases h.1) (Rws.grow _) (Or.inl ⟨by rfl, ?_⟩) hS ?_
          rotate_left
          · intro w' hS'
            simp only [Rws] at hS'
            go_simp
            refine ⟨?_, Below.refl _ _⟩
            rfl
          (try simp only [Act.put, List.setIfInBounds_toArray, List.set_cons_zero, List.set_cons_succ])
          refine wpAnyK_take (i := 5) (v := ?_) (by simp only [List.getElem?_toArray, List.getElem?_cons_succ, List.getElem?_cons_zero]; rfl) (by kernel_rfl) (by kernel_rfl) (by kernel_rfl) (by kernel_rfl) (by first | exact fun _ _ _ h => h | exact fun _ _ _ h => by cases h.1) (Rws.grow _) (Or.inl ⟨by rfl, ?_⟩) hS ?_
          rotate_left
          · intro w' hS'
            simp only [Rws] at hS'
            go_simp
            refine ⟨?_, Below.refl _ _⟩
            rfl
          (try simp only [Act.put, List.setIfInBounds_toArray, List.set_cons_zero, List.set_cons_succ])
          refine wpAnyK_take (i := 6) (v := ?_) (by simp only [List.getElem?_toArray, List.getElem?_cons_succ, List.getElem?_cons_zero]; rfl) (by kernel_rfl) (by kernel_rfl) (by kernel_rfl) (by kernel_rfl) (by first | exact fun _ _ _ h => h | exact fun _ _ _ h => by cases h.1) (Rws.grow _) (Or.inl ⟨by rfl, ?_⟩) hS ?_
          rotate_left
          · intro w' hS'
            simp only [Rws] at hS'
            go_simp
            refine ⟨?_, Below.refl _ _⟩
            rfl
          (try simp only [Act.put, List.setIfInBounds_toArray, List.set_cons_zero, List.set_cons_succ])
          refine wpAnyK_take (i := 7) (v := ?_) (by simp only [List.getElem?_toArray, List.getElem?_cons_succ, List.getElem?_cons_zero]; rfl) (by kernel_rfl) (by kernel_rfl) (by kernel_rfl) (by kernel_rfl) (by first | exact fun _ _ _ h => h | exact fun _ _ _ h => by cases h.1) (Rws.grow _) (Or.inl ⟨by rfl, ?_⟩) hS ?_
          rotate_left
          · intro w' hS'
            simp only [Rws] at hS'
            go_simp
            refine ⟨?_, Below.refl _ _⟩
            rfl
          (try simp only [Act.put, List.setIfInBounds_toArray, List.set_cons_zero, List.set_cons_succ])
          refine wpAnyK_take (i := 8) (v := ?_) (by simp only [List.getElem?_toArray, List.getElem?_cons_succ, List.getElem?_cons_zero]; rfl) (by kernel_rfl) (by kernel_rfl) (by kernel_rfl) (by kernel_rfl) (by first | exact fun _ _ _ h => h | exact fun _ _ _ h => by cases h.1) (Rws.grow _) (Or.inl ⟨by rfl, ?_⟩) hS ?_
          rotate_left
          · intro w' hS'
            simp only [Rws] at hS'
            go_simp
            refine ⟨?_, Below.refl _ _⟩
            rfl
          (try simp only [Act.put, List.setIfInBounds_toArray, List.set_cons_zero, List.set_cons_succ])
          refine wpAnyK_take (i := 9) (v := ?_) (by simp only [List.getElem?_toArray, List.getElem?_cons_succ, List.getElem?_cons_zero]; rfl) (by kernel_rfl) (by kernel_rfl) (by kernel_rfl) (by kernel_rfl) (by first | exact fun _ _ _ h => h | exact fun _ _ _ h => by cases h.1) (Rws.grow _) (Or.inl ⟨by rfl, ?_⟩) hS ?_
          rotate_left
          · intro w' hS'
            simp only [Rws] at hS'
            go_simp
            refine ⟨?_, Below.refl _ _⟩
            rfl
          (try simp only [Act.put, List.setIfInBounds_toArray, List.set_cons_zero, List.set_cons_succ])
          refine wpAnyK_take (i := 10) (v := ?_) (by simp only [List.getElem?_toArray, List.getElem?_cons_succ, List.getElem?_cons_zero]; rfl) (by kernel_rfl) (by kernel_rfl) (by kernel_rfl) (by kernel_rfl) (by first | exact fun _ _ _ h => h | exact fun _ _ _ h => by cases h.1) (Rws.grow _) (Or.inl ⟨by rfl, ?_⟩) hS ?_
          rotate_left
          · intro w' hS'
            simp only [Rws] at hS'
            go_simp
            refine ⟨?_, Below.refl _ _⟩
            rfl
          (try simp only [Act.put, List.setIfInBounds_toArray, List.set_cons_zero, List.set_cons_succ])
          refine wpAnyK_take (i := 11) (v := ?_) (by simp only [List.getElem?_toArray, List.getElem?_cons_succ, List.getElem?_cons_zero]; rfl) (by kernel_rfl) (by kernel_rfl) (by kernel_rfl) (by kernel_rfl) (by first | exact fun _ _ _ h => h | exact fun _ _ _ h => by cases h.1) (Rws.grow _) (Or.inl ⟨by rfl, ?_⟩) hS ?_
          rotate_left
          · intro w' hS'
            simp only [Rws] at hS'
            go_simp
            refine ⟨?_, Below.refl _ _⟩
            rfl
          (try simp only [Act.put, List.setIfInBounds_toArray, List.set_cons_zero, List.set_cons_succ])
          refine wpAnyK_take (i := 12) (v := ?_) (by simp only [List.getElem?_toArray, List.getElem?_cons_succ, List.getElem?_cons_zero]; rfl) (by kernel_rfl) (by kernel_rfl) (by kernel_rfl) (by kernel_rfl) (by first | exact fun _ _ _ h => h | exact fun _ _ _ h => by cases h.1) (Rws.grow _) (Or.inl ⟨by rfl, ?_⟩) hS ?_
          rotate_left
          · intro w' hS'
            simp only [Rws] at hS'
            go_simp
            refine ⟨?_, Below.refl _ _⟩
            rfl
          (try simp only [Act.put, List.setIfInBounds_toArray, List.set_cons_zero, List.set_cons_succ])
          refine wpAnyK_take (i := 13) (v := ?_) (by simp only [List.getElem?_toArray, List.getElem?_cons_succ, List.getElem?_cons_zero]; rfl) (by kernel_rfl) (by kernel_rfl) (by kernel_rfl) (by kernel_rfl) (by first | exact fun _ _ _ h => h | exact fun _ _ _ h => by cases h.1) (Rws.grow _) (Or.inl ⟨by rfl, ?_⟩) hS ?_
          rotate_left
          · intro w' hS'
            simp only [Rws] at hS'
            go_simp
            refine ⟨?_, Below.refl _ _⟩
            rfl
          (try simp only [Act.put, List.setIfInBounds_toArray, List.set_cons_zero, List.set_cons_succ])
          refine wpAnyK_take (i := 14) (v := ?_) (by simp only [List.getElem?_toArray, List.getElem?_cons_succ, List.getElem?_cons_zero]; rfl) (by kernel_rfl) (by kernel_rfl) (by kernel_rfl) (by kernel_rfl) (by first | exact fun _ _ _ h => h | exact fun _ _ _ h => by cases h.1) (Rws.grow _) (Or.inl ⟨by rfl, ?_⟩) hS ?_
          rotate_left
          · intro w' hS'
            simp only [Rws] at hS'
            go_simp
            refine ⟨?_, Below.refl _ _⟩
            rfl
          (try simp only [Act.put, List.setIfInBounds_toArray, List.set_cons_zero, List.set_cons_succ])
          refine wpAnyK_take (i := 15) (v := ?_) (by simp only [List.getElem?_toArray, List.getElem?_cons_succ, List.getElem?_cons_zero]; rfl) (by kernel_rfl) (by kernel_rfl) (by kernel_rfl) (by kernel_rfl) (by first | exact fun _ _ _ h => h | exact fun _ _ _ h => by cases h.1) (Rws.grow _) (Or.inl ⟨by rfl, ?_⟩) hS ?_
          rotate_left
          · intro w' hS'
            simp only [Rws] at hS'
            go_simp
            refine ⟨?_, Below.refl _ _⟩
            rfl
          (try simp only [Act.put, List.setIfInBounds_toArray, List.set_cons_zero, List.set_cons_succ])
          refine wpAnyK_take (i := 16) (v := ?_) (by simp only [List.getElem?_toArray, List.getElem?_cons_succ, List.getElem?_cons_zero]; rfl) (by kernel_rfl) (by kernel_rfl) (by kernel_rfl) (by kernel_rfl) (by first | exact fun _ _ _ h => h | exact fun _ _ _ h => by cases h.1) (Rws.grow _) (Or.inl ⟨by rfl, ?_⟩) hS ?_
          rotate_left
          · intro w' hS'
            simp only [Rws] at hS'
            go_simp
            refine ⟨?_, Below.refl _ _⟩
            rfl
          (try simp only [Act.put, List.setIfInBounds_toArray, List.set_cons_zero, List.set_cons_succ])
          refine wpAnyK_take (i := 17) (v := ?_) (by simp only [List.getElem?_toArray, List.getElem?_cons_succ, List.getElem?_cons_zero]; rfl) (by kernel_rfl) (by kernel_rfl) (by kernel_rfl) (by kernel_rfl) (by first | exact fun _ _ _ h => h | exact fun _ _ _ h => by cases h.1) (Rws.grow _) (Or.inl ⟨by rfl, ?_⟩) hS ?_
          rotate_left
          · intro w' hS'
            simp only [Rws] at hS'
            go_simp
            refine ⟨?_, Below.refl _ _⟩
            rfl
          (try simp only [Act.put, List.setIfInBounds_toArray, List.set_cons_zero, List.set_cons_succ])
          refine wpAnyK_take (i := 18) (v := ?_) (by simp only [List.getElem?_toArray, List.getElem?_cons_succ, List.getElem?_cons_zero]; rfl) (by kernel_rfl) (by kernel_rfl) (by kernel_rfl) (by kernel_rfl) (by first | exact fun _ _ _ h => h | exact fun _ _ _ h => by cases h.1) (Rws.grow _) (Or.inl ⟨by rfl, ?_⟩) hS ?_
          rotate_left
          · intro w' hS'
            simp only [Rws] at hS'
            go_simp
            refine ⟨?_, Below.refl _ _⟩
            rfl
          (try simp only [Act.put, List.setIfInBounds_toArray, List.set_cons_zero, List.set_cons_succ])
          refine wpAnyK_store (k := 19) (by simp only [List.getElem?_toArray, List.getElem?_cons_succ, List.getElem?_cons_zero]; rfl) rfl rfl (by kernel_rfl) (fun u1 hu1 => ?_)
          have zu1 : wr.heap.size ≤ u1.heap.size := hu1.size
          have hu2 := below_step (Below.drew (Below.refl _ _)) hu1
          have ou := hown.below hu2
          obtain ⟨rXu, _, _⟩ := ou.full
          have o3 := ou.setFull (u := .int .i64 (q : Int)) (j := p) (by simpa using hpl)
          have b3 : Below X w1 (u1.setRow X ((n64s l').set p (.int .i64 (q : Int))).toArray) := Below.setRow (hbel.trans (hu2.mono (by omega))) (Nat.le_refl _) _
          rw [n64s_set] at o3 b3
          obtain ⟨w5, hw5⟩ : ∃ v, u1.setRow X (n64s (l'.set p q)).toArray = v := ⟨_, rfl⟩
          rw [hw5] at o3 b3
          have z5 : X < w5.heap.size := by rw [← hw5]; simp; omega
          refine ⟨w5, by go_simp; (try rw [hw5]), trivial, fun hS2 => ?_⟩
          clear hw5
          (try simp only [Act.put, List.setIfInBounds_toArray, List.set_cons_zero, List.set_cons_succ])
          refine wpAnyR_done (by kernel_rfl) (fun w6 h6 => ?_) _
          have o6 := o3.below h6
          have b6 := b3.trans (h6.mono (by omega))
          clear o3 b3 ou hu1 hu2 hown hbel rX rXu ra rb hS hS2 h6
          go_wp2_with fail
          go_roundw
          case rel => exact ⟨m + 1, l'.set p q, by omega, rfl, HL2.out, HB2.out, HS.out, o6, b6⟩
          case measure => simp [intOf]; omega
        · obtain rfl : m = 32 := by omega
          rw [show ((32 : Nat) : Int) = 32 from rfl]
          have hs : valB l' = valB (a.take (n + 1)) * valB b := by
            rw [HV2.out, HV.out, HT.out, TB.out, Nat.add_mul, Nat.mul_assoc]
          have HS := Lib.hid hs
          clear hs
          go_wp2_with fail
          go_roundw
          case rel => exact ⟨n + 1, l', by omega, rfl, hll, fun i => by have := HBD.out i; omega, HS.out, hown, hbel⟩
          case measure => simp [intOf]; omega
    · obtain rfl : n = 32 := by omega
      rw [show ((32 : Nat) : Int) = 32 from rfl]
      rw [TA.out, HAU.out, HBV.out] at hval
      have hbd2 : ∀ i, l.getD i 0 ≤ 66585600 := fun i => by have := hbd i; omega
      have HVV := Lib.hid hval
      have HB := Lib.hid hbd2
      clear hval hbd hbd2
      go_wp2_with fail
      go_loopw [8] (fun i wq => ∃ (n : Nat) (l' : List Nat), n ≤ 64 ∧ i = .int .i64 n ∧ l'.length = 65 ∧ (∀ i, n < i → l'.getD i 0 ≤ 66585600) ∧ l'.getD n 0 ≤ 67000000 ∧ (∀ i, i < n → l'.getD i 0 < 256) ∧ valB l' = u * v ∧ Own wq X 3 (.slice (some ⟨X, 0, none⟩) 65 65) (n64s l') ∧ Below X w1 wq) (fun i _ => 64 - (intOf i).toNat)
      case atStart => exact ⟨0, l, by omega, rfl, hll, fun i _ => HB.out i, by have := HB.out 0; omega, fun i hi => by omega, HVV.out, hown, hbel⟩
      case round =>
        clear hown hbel hsz hll hlt
        obtain ⟨n, l', hn, rfl, hll, hb1, hb2, hb3, hval, hown, hbel⟩ := hrel
        have hsz := hbel.size
        obtain ⟨rX, zX2, _⟩ := hown.full
        have rR := (row_below hbel (by omega)).trans rR1
        have HVV2 := Lib.hid hval
        have HB1 := Lib.hid hb1
        have HB3 := Lib.hid hb3
        clear hval hb1 hb3
        by_cases hlt : n < 64
        · have jn : (n : Int) < 64 := by omega
          have jn2 : (n : Int) < 65 := by omega
          have hnl : n < l'.length := by omega
          obtain ⟨n1, hn1⟩ : ∃ v, n + 1 = v := ⟨_, rfl⟩
          have fn1 : IntKind.i64.wrap ((n : Int) + 1) = (n1 : Int) := wrapN _ _ (by omega) (by omega)
          have jn1 : (n1 : Int) < 65 := by omega
          have jn1' : n1 < 65 := by omega
          have hnl1 : n1 < l'.length := by omega
          obtain ⟨O, hO⟩ : ∃ v, l'[n] = v := ⟨_, rfl⟩
          obtain ⟨O1, hO1⟩ : ∃ v, l'[n1] = v := ⟨_, rfl⟩
          have vO : O ≤ 67000000 := by rw [← hO, ← getD_at _ _ hnl]; exact hb2
          have vO1 : O1 ≤ 66585600 := by rw [← hO1, ← getD_at _ _ hnl1]; exact HB1.out n1 (by omega)
          obtain ⟨q, hq⟩ : ∃ v, O / 256 = v := ⟨_, rfl⟩
          obtain ⟨d, hd⟩ : ∃ v, O % 256 = v := ⟨_, rfl⟩
          obtain ⟨m1, m2⟩ := modt _ _ hd
          obtain ⟨m3, m4⟩ := divt _ _ hq
          obtain ⟨s, hs⟩ : ∃ v, O1 + q = v := ⟨_, rfl⟩
          have fs : IntKind.i64.wrap ((O1 : Int) + (q : Int)) = (s : Int) := wrapN _ _ (by omega) (by omega)
          have fqq : IntKind.i64.wrap (q : Int) = (q : Int) := wrapN _ _ rfl (by omega)
          have vs : s ≤ 67000000 := by omega
          have vd : d < 256 := by omega
          obtain ⟨L1, hL1⟩ : ∃ v, l'.set n1 s = v := ⟨_, rfl⟩
          have l1l : L1.length = 65 := by rw [← hL1, List.length_set]; exact hll
          have hnL1 : n < L1.length := by omega
          have hO' : L1[n] = O := by simp only [← hL1]; rw [List.getElem_set_ne (by omega), hO]
          obtain ⟨L2, hL2⟩ : ∃ v, L1.set n d = v := ⟨_, rfl⟩
          have l2l : L2.length = 65 := by rw [← hL2, List.length_set]; exact l1l
          have hv2 : valB L2 = u * v := by
            rw [← hL2, ← hL1, ← HVV2.out]
            have hnn := hn1
            subst hnn
            exact carryG l' n O O1 d q s hnl1 hO hO1 hd hq hs
          have g2 : ∀ i, L2.getD i 0 = if n = i then d else if n1 = i then s else l'.getD i 0 := by
            intro i
            rw [← hL2]
            have t1 : ∀ (M : List Nat) (i j v : Nat), i < M.length → (M.set i v).getD j 0 = if i = j then v else M.getD j 0 := by
              intro M i j v h
              by_cases hij : i = j
              · subst hij
                simp [List.getD_eq_getElem?_getD, h]
              · simp [List.getD_eq_getElem?_getD, hij]
            rw [t1 L1 n i d hnL1]
            split
            · rfl
            · rw [← hL1, t1 l' n1 i s hnl1]
          have c1 : ∀ i, n1 < i → L2.getD i 0 ≤ 66585600 := fun i hi => by rw [g2, if_neg (by omega), if_neg (by omega)]; exact HB1.out i (by omega)
          have c2 : L2.getD n1 0 ≤ 67000000 := by rw [g2, if_neg (by omega), if_pos rfl]; exact vs
          have c3 : ∀ i, i < n1 → L2.getD i 0 < 256 := fun i hi => by
            rw [g2]
            split
            · exact vd
            · rw [if_neg (by omega)]
              exact HB3.out i (by omega)
          have C1 := Lib.hid c1
          have C2 := Lib.hid c2
          have C3 := Lib.hid c3
          have V2 := Lib.hid hv2
          have LL2 := Lib.hid l2l
          have HN1 := Lib.hid hn1
          have HL1 := Lib.hid hL1
          have HL2 := Lib.hid hL2
          have hset1 : (n64s l').set n1 (.int .i64 (s : Int)) = n64s L1 := by rw [n64s_set, hL1]
          have hset2 : (n64s L1).set n (.int .i64 (d : Int)) = n64s L2 := by rw [n64s_set, hL2]
          have hl0 : 0 < l'.length := by omega
          have hL10 : 0 < L1.length := by omega
          have hll1 : n1 < l'.length := hnl1
          have LL1 := Lib.hid l1l
          clear hq hd hs hL1 hL2 c1 c2 c3 hv2 l2l hn1 g2 hll l1l
          go_wp2_with fail
          refine wp_region_beginK 15 [(X, (n64s l').toArray)] [] rfl (by simp only [Rws]; (repeat (first | exact trivial | refine ⟨(by first | assumption | (simp [go_sem, *]; done)), (by first | omega | (simp; done) | (simp; omega)), ?_⟩))) (fun hS => ?_)
          refine wpAnyK_take (i := 0) (v := ?_) (by simp only [List.getElem?_toArray, List.getElem?_cons_succ, List.getElem?_cons_zero]; rfl) (by kernel_rfl) (by kernel_rfl) (by kernel_rfl) (by kernel_rfl) (by first | exact fun _ _ _ h => h | exact fun _ _ _ h => by cases h.1) (Rws.grow _) (Or.inl ⟨by rfl, ?_⟩) hS ?_
          rotate_left
          · intro w' hS'
            simp only [Rws] at hS'
            go_simp
            refine ⟨?_, Below.refl _ _⟩
            rfl
          (try simp only [Act.put, List.setIfInBounds_toArray, List.set_cons_zero, List.set_cons_succ])
          refine wpAnyK_take (i := 1) (v := ?_) (by simp only [List.getElem?_toArray, List.getElem?_cons_succ, List.getElem?_cons_zero]; rfl) (by kernel_rfl) (by kernel_rfl) (by kernel_rfl) (by kernel_rfl) (by first | exact fun _ _ _ h => h | exact fun _ _ _ h => by cases h.1) (Rws.grow _) (Or.inl ⟨by rfl, ?_⟩) hS ?_
          rotate_left
          · intro w' hS'
            simp only [Rws] at hS'
            go_simp
            refine ⟨?_, Below.refl _ _⟩
            rfl
          (try simp only [Act.put, List.setIfInBounds_toArray, List.set_cons_zero, List.set_cons_succ])
          refine wpAnyK_take (i := 2) (v := ?_) (by simp only [List.getElem?_toArray, List.getElem?_cons_succ, List.getElem?_cons_zero]; rfl) (by kernel_rfl) (by kernel_rfl) (by kernel_rfl) (by kernel_rfl) (by first | exact fun _ _ _ h => h | exact fun _ _ _ h => by cases h.1) (Rws.grow _) (Or.inl ⟨by rfl, ?_⟩) hS ?_
          rotate_left
          · intro w' hS'
            simp only [Rws] at hS'
            go_simp
            refine ⟨?_, Below.refl _ _⟩
            rfl
          (try simp only [Act.put, List.setIfInBounds_toArray, List.set_cons_zero, List.set_cons_succ])
          refine wpAnyK_take (i := 3) (v := ?_) (by simp only [List.getElem?_toArray, List.getElem?_cons_succ, List.getElem?_cons_zero]; rfl) (by kernel_rfl) (by kernel_rfl) (by kernel_rfl) (by kernel_rfl) (by first | exact fun _ _ _ h => h | exact fun _ _ _ h => by cases h.1) (Rws.grow _) (Or.inl ⟨by rfl, ?_⟩) hS ?_
          rotate_left
          · intro w' hS'
            simp only [Rws] at hS'
            go_simp
            refine ⟨?_, Below.refl _ _⟩
            rfl
          (try simp only [Act.put, List.setIfInBounds_toArray, List.set_cons_zero, List.set_cons_succ])
          refine wpAnyK_take (i := 4) (v := ?_) (by simp only [List.getElem?_toArray, List.getElem?_cons_succ, List.getElem?_cons_zero]; rfl) (by kernel_rfl) (by kernel_rfl) (by kernel_rfl) (by kernel_rfl) (by first | exact fun _ _ _ h => h | exact fun _ _ _ h => by cases h.1) (Rws.grow _) (Or.inl ⟨by rfl, ?_⟩) hS ?_
          rotate_left
          · intro w' hS'
            simp only [Rws] at hS'
            go_simp
            refine ⟨?_, Below.refl _ _⟩
            rfl
          (try simp only [Act.put, List.setIfInBounds_toArray, List.set_cons_zero, List.set_cons_succ])
          refine wpAnyK_take (i := 5) (v := ?_) (by simp only [List.getElem?_toArray, List.getElem?_cons_succ, List.getElem?_cons_zero]; rfl) (by kernel_rfl) (by kernel_rfl) (by kernel_rfl) (by kernel_rfl) (by first | exact fun _ _ _ h => h | exact fun _ _ _ h => by cases h.1) (Rws.grow _) (Or.inl ⟨by rfl, ?_⟩) hS ?_
          rotate_left
          · intro w' hS'
            simp only [Rws] at hS'
            go_simp
            refine ⟨?_, Below.refl _ _⟩
            rfl
          (try simp only [Act.put, List.setIfInBounds_toArray, List.set_cons_zero, List.set_cons_succ])
          refine wpAnyK_take (i := 6) (v := ?_) (by simp only [List.getElem?_toArray, List.getElem?_cons_succ, List.getElem?_cons_zero]; rfl) (by kernel_rfl) (by kernel_rfl) (by kernel_rfl) (by kernel_rfl) (by first | exact fun _ _ _ h => h | exact fun _ _ _ h => by cases h.1) (Rws.grow _) (Or.inl ⟨by rfl, ?_⟩) hS ?_
          rotate_left
          · intro w' hS'
            simp only [Rws] at hS'
            go_simp
            refine ⟨?_, Below.refl _ _⟩
            rfl
          (try simp only [Act.put, List.setIfInBounds_toArray, List.set_cons_zero, List.set_cons_succ])
          refine wpAnyK_take (i := 7) (v := ?_) (by simp only [List.getElem?_toArray, List.getElem?_cons_succ, List.getElem?_cons_zero]; rfl) (by kernel_rfl) (by kernel_rfl) (by kernel_rfl) (by kernel_rfl) (by first | exact fun _ _ _ h => h | exact fun _ _ _ h => by cases h.1) (Rws.grow _) (Or.inl ⟨by rfl, ?_⟩) hS ?_
          rotate_left
          · intro w' hS'
            simp only [Rws] at hS'
            go_simp
            refine ⟨?_, Below.refl _ _⟩
            rfl
          (try simp only [Act.put, List.setIfInBounds_toArray, List.set_cons_zero, List.set_cons_succ])
          refine wpAnyK_take (i := 8) (v := ?_) (by simp only [List.getElem?_toArray, List.getElem?_cons_succ, List.getElem?_cons_zero]; rfl) (by kernel_rfl) (by kernel_rfl) (by kernel_rfl) (by kernel_rfl) (by first | exact fun _ _ _ h => h | exact fun _ _ _ h => by cases h.1) (Rws.grow _) (Or.inl ⟨by rfl, ?_⟩) hS ?_
          rotate_left
          · intro w' hS'
            simp only [Rws] at hS'
            go_simp
            refine ⟨?_, Below.refl _ _⟩
            rfl
          (try simp only [Act.put, List.setIfInBounds_toArray, List.set_cons_zero, List.set_cons_succ])
          refine wpAnyK_take (i := 9) (v := ?_) (by simp only [List.getElem?_toArray, List.getElem?_cons_succ, List.getElem?_cons_zero]; rfl) (by kernel_rfl) (by kernel_rfl) (by kernel_rfl) (by kernel_rfl) (by first | exact fun _ _ _ h => h | exact fun _ _ _ h => by cases h.1) (Rws.grow _) (Or.inl ⟨by rfl, ?_⟩) hS ?_
          rotate_left
          · intro w' hS'
            simp only [Rws] at hS'
            go_simp
            refine ⟨?_, Below.refl _ _⟩
            rfl
          (try simp only [Act.put, List.setIfInBounds_toArray, List.set_cons_zero, List.set_cons_succ])
          refine wpAnyK_take (i := 10) (v := ?_) (by simp only [List.getElem?_toArray, List.getElem?_cons_succ, List.getElem?_cons_zero]; rfl) (by kernel_rfl) (by kernel_rfl) (by kernel_rfl) (by kernel_rfl) (by first | exact fun _ _ _ h => h | exact fun _ _ _ h => by cases h.1) (Rws.grow _) (Or.inl ⟨by rfl, ?_⟩) hS ?_
          rotate_left
          · intro w' hS'
            simp only [Rws] at hS'
            go_simp
            refine ⟨?_, Below.refl _ _⟩
            rfl
          (try simp only [Act.put, List.setIfInBounds_toArray, List.set_cons_zero, List.set_cons_succ])
          refine wpAnyK_take (i := 11) (v := ?_) (by simp only [List.getElem?_toArray, List.getElem?_cons_succ, List.getElem?_cons_zero]; rfl) (by kernel_rfl) (by kernel_rfl) (by kernel_rfl) (by kernel_rfl) (by first | exact fun _ _ _ h => h | exact fun _ _ _ h => by cases h.1) (Rws.grow _) (Or.inl ⟨by rfl, ?_⟩) hS ?_
          rotate_left
          · intro w' hS'
            simp only [Rws] at hS'
            go_simp
            refine ⟨?_, Below.refl _ _⟩
            rfl
          (try simp only [Act.put, List.setIfInBounds_toArray, List.set_cons_zero, List.set_cons_succ])
          refine wpAnyK_take (i := 12) (v := ?_) (by simp only [List.getElem?_toArray, List.getElem?_cons_succ, List.getElem?_cons_zero]; rfl) (by kernel_rfl) (by kernel_rfl) (by kernel_rfl) (by kernel_rfl) (by first | exact fun _ _ _ h => h | exact fun _ _ _ h => by cases h.1) (Rws.grow _) (Or.inl ⟨by rfl, ?_⟩) hS ?_
          rotate_left
          · intro w' hS'
            simp only [Rws] at hS'
            go_simp
            refine ⟨?_, Below.refl _ _⟩
            rfl
          (try simp only [Act.put, List.setIfInBounds_toArray, List.set_cons_zero, List.set_cons_succ])
          refine wpAnyK_take (i := 13) (v := ?_) (by simp only [List.getElem?_toArray, List.getElem?_cons_succ, List.getElem?_cons_zero]; rfl) (by kernel_rfl) (by kernel_rfl) (by kernel_rfl) (by kernel_rfl) (by first | exact fun _ _ _ h => h | exact fun _ _ _ h => by cases h.1) (Rws.grow _) (Or.inl ⟨by rfl, ?_⟩) hS ?_
          rotate_left
          · intro w' hS'
            simp only [Rws] at hS'
            go_simp
            refine ⟨?_, Below.refl _ _⟩
            rfl
          (try simp only [Act.put, List.setIfInBounds_toArray, List.set_cons_zero, List.set_cons_succ])
          refine wpAnyK_take (i := 14) (v := ?_) (by simp only [List.getElem?_toArray, List.getElem?_cons_succ, List.getElem?_cons_zero]; rfl) (by kernel_rfl) (by kernel_rfl) (by kernel_rfl) (by kernel_rfl) (by first | exact fun _ _ _ h => h | exact fun _ _ _ h => by cases h.1) (Rws.grow _) (Or.inl ⟨by rfl, ?_⟩) hS ?_
          rotate_left
          · intro w' hS'
            simp only [Rws] at hS'
            go_simp
            refine ⟨?_, Below.refl _ _⟩
            rfl
          (try simp only [Act.put, List.setIfInBounds_toArray, List.set_cons_zero, List.set_cons_succ])
          refine wpAnyK_store (k := 15) (by simp only [List.getElem?_toArray, List.getElem?_cons_succ, List.getElem?_cons_zero]; rfl) rfl rfl (by kernel_rfl) (fun u1 hu1 => ?_)
          have zu1 : wr.heap.size ≤ u1.heap.size := hu1.size
          have hu2 := below_step (Below.drew (Below.refl _ _)) hu1
          have ou := hown.below hu2
          obtain ⟨rXu, _, _⟩ := ou.full
          have o3 := ou.setFull (u := .int .i64 (s : Int)) (j := n1) (by simpa using hll1)
          have b3 : Below X w1 (u1.setRow X ((n64s l').set n1 (.int .i64 (s : Int))).toArray) := Below.setRow (hbel.trans (hu2.mono (by omega))) (Nat.le_refl _) _
          rw [hset1] at o3 b3
          obtain ⟨w5, hw5⟩ : ∃ v, u1.setRow X (n64s L1).toArray = v := ⟨_, rfl⟩
          rw [hw5] at o3 b3
          have z5 : X < w5.heap.size := by rw [← hw5]; simp; omega
          refine ⟨w5, by go_simp; (try rw [HL1.out, hw5]), trivial, fun hS2 => ?_⟩
          clear hw5
          (try simp only [Act.put, List.setIfInBounds_toArray, List.set_cons_zero, List.set_cons_succ])
          refine wpAnyR_done (by kernel_rfl) (fun w6 h6 => ?_) _
          have o6 := o3.below h6
          have b6 := b3.trans (h6.mono (by omega))
          obtain ⟨rX6, zX6, _⟩ := o6.full
          have o7 := o6.setFull (u := .int .i64 (d : Int)) (j := n) (by simpa using hnL1)
          have b7 : Below X w1 (w6.setRow X ((n64s L1).set n (.int .i64 (d : Int))).toArray) := Below.setRow b6 (Nat.le_refl _) _
          rw [hset2] at o7 b7
          clear o3 b3 ou hu1 hu2 hown hbel rX rXu rR hS hS2 h6 o6 b6 hset1
          go_wp2_with fail
          go_roundw
          case rel => exact ⟨n1, L2, by omega, by first | rfl | (rw [← HN1.out]; rfl), LL2.out, C1.out, C2.out, C3.out, V2.out, o7, b7⟩
          case measure => have := HN1.out; simp [intOf]; omega
        · obtain rfl : n = 64 := by omega
          rw [show ((64 : Nat) : Int) = 64 from rfl]
          have hdl : Dig l' := times_fit l' hll (u * v) HUV.out HVV2.out HB3.out
          have hlp : 0 < l'.length := by omega
          have hl65 : l'.length ≤ 65 := by omega
          have rX' : row wr X = (n64s l' ++ []).toArray := by rw [List.append_nil]; exact rX
          have hrest := fun W' => rest_fun l' X 65 [] W'
          rw [hll] at hrest
          have HRE := Lib.hid (hrest wr rX' zX2 (by decide) (by decide) hdl)
          rw [HVV2.out] at HRE
          have hrl := digB_length (u * v % pB)
          obtain ⟨r, hr⟩ : ∃ r, digB (u * v % pB) = r := ⟨_, rfl⟩
          rw [hr] at HRE hrl
          have HR := Lib.hid hr
          have bwr : Below w.heap.size w wr := bw1.trans (hbel.mono (by omega))
          clear hr hrest hll hown
          go_wp2_with fail
          (with_reducible refine HRE.out.mono ?_)
          rintro e w8 ⟨rfl, b8⟩
          have rR8 := (row_below b8 (by omega)).trans rR
          have hfin := row_setRow_same (w := w8) (g := w.heap.size + 1 + 1) (c := (n64s r).toArray) (by rw [rR8]; simp) (by rw [rR8]; simp [hrl])
          have bw8 := bwr.trans (b8.mono (by omega))
          go_wp2_with fail
          (try simp only [Exit.inBlock, Exit.then])
          refine bodyPost_ret (results_1 rfl (resOk_row rfl ?_)) rfl ?_
          · rw [hfin]
            simp [hrl]
          refine ⟨by rw [hfin, HR.out], ?_⟩
          exact Below.setRow bw8 (by omega) _
end Go.Proofs.Ytohhiibgjcbpiaa
