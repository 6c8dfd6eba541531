/- Contracts of the reference of chapter 3: a text masked. -/
import Derived.Test.YtakkicppgkmokaaGreatJ45
import Derived.Test.YtakkicppgkmokaaGreatJ6
set_option linter.unusedSimpArgs false
set_option linter.unusedVariables false
namespace Go.Proofs.YtakkicppgkmokaaGreat
open Go.RowKit
def maskB (k : List UInt8) (count : Int) (nonce l : List UInt8) (j : Nat) : UInt8 := l.getD j 0 ^^^ ksB k count nonce j
def maskN (k : List UInt8) (count : Int) (nonce l : List UInt8) (n : Nat) : List UInt8 := (List.range n).map (maskB k count nonce l)
theorem maskN_succ (k : List UInt8) (count : Int) (nonce l : List UInt8) (n : Nat) : maskN k count nonce l (n + 1) = maskN k count nonce l n ++ [maskB k count nonce l n] := by simp [maskN, List.range_succ]
theorem maskN_length (k : List UInt8) (count : Int) (nonce l : List UInt8) (n : Nat) : (maskN k count nonce l n).length = n := by simp [maskN]
theorem maskN_all (k : List UInt8) (count : Int) (nonce l : List UInt8) : maskN k count nonce l l.length = maskL k count nonce l := by
 unfold maskN maskL mkL
 refine List.map_congr_left fun j hj => ?_
 rw [if_pos (List.mem_range.1 hj)]
 rfl
attribute [local irreducible] streamL
set_option maxRecDepth 20000 in
set_option maxHeartbeats 2000000 in
theorem maskR_any (k : List UInt8) (count : Int) (nonce l : List UInt8) (w : World) (hk : k.length = 32) (hn : nonce.length = 12) (hl : l.length ≤ 100000) (c0 : 0 ≤ count) (c1 : count < 4294967296) :
  Calls Tryz.prog 63 #[.agg (u8s k).toArray, .int .u32 count, .string ⟨nonce.toArray⟩, .string ⟨l.toArray⟩] w fun e w' => e = .returned (.string ⟨(maskL k count nonce l).toArray⟩) ∧ Below w.heap.size w w' := by
 have hl2 : (l.length : Int) ≤ 100000 := by omega
 go_enter Tryz.func63, Tryz.ntmps63
 go_wp2_with fail
 go_loopw [1, 9, 10, 11] (fun c v b i wr => ∃ (n : Nat) (t : List UInt8), n ≤ l.length ∧ i = .int .i64 n ∧ c = .int .u32 ((count + (((n + 63) / 64 : Nat) : Int)) % 4294967296) ∧ b = .string ⟨t.toArray⟩ ∧ (n ≠ 0 → t = streamL k ((count + (((n - 1) / 64 : Nat) : Int)) % 4294967296) nonce) ∧ Own wr (w.heap.size + 1) 5 v (u8s (maskN k count nonce l n)) ∧ row wr w.heap.size = (u8s k).toArray ∧ w.heap.size < wr.heap.size ∧ Below w.heap.size w wr) (fun _ _ _ i _ => l.length - (intOf i).toNat)
 case atStart =>
  refine ⟨0, [], by omega, rfl, ?_, rfl, fun h => absurd rfl h, Own.nil, by simp [go_sem], by simp, (by (repeat (first | exact Below.refl _ _ | refine Below.al ?_ _ | refine Below.drew ?_ | refine Below.sr ?_ _ | refine Below.sc ?_ _)))⟩
  rw [show (count + (((0 + 63) / 64 : Nat) : Int)) % 4294967296 = count by simp; omega]
 case round =>
  obtain ⟨n, t, hnl, rfl, rfl, rfl, ht, hown, hK, hz, hbel⟩ := hrel
  by_cases hlt : n < l.length
  ·
   have h1 : (n : Int) < l.length := by omega
   obtain ⟨r, hr⟩ : ∃ r, n % 64 = r := ⟨_, rfl⟩
   have e1 : (n : Int) % 64 = (r : Int) := by omega
   have e1t : (n : Int).tmod 64 = (r : Int) := by rw [Int.tmod_eq_emod_of_nonneg (by omega)]; exact e1
   obtain ⟨m, hm⟩ : ∃ m, n / 64 = m := ⟨_, rfl⟩
   have hr64 : r < 64 := by omega
   by_cases hr0 : r = 0
   ·
    subst hr0
    obtain ⟨c, hc⟩ : ∃ c, (count + (((n + 63) / 64 : Nat) : Int)) % 4294967296 = c := ⟨_, rfl⟩
    have hcm : c = (count + (m : Int)) % 4294967296 := by rw [← hc, show (n + 63) / 64 = m by omega]
    rw [hc]
    have HC := Lib.hid hcm
    clear hcm hc ht
    obtain ⟨T, hT⟩ : ∃ T, streamL k c nonce = T := ⟨_, rfl⟩
    have HB := Lib.hid (fun w => blockR_any k c nonce w hk hn)
    rw [hT] at HB
    have ht1 : T = streamL k ((count + (m : Int)) % 4294967296) nonce := by rw [← hT, ← HC.out]
    have HT := Lib.hid ht1
    clear hT ht1
    go_wp2_with fail
    (with_reducible refine (HB.out _).mono ?_)
    rintro e w1 ⟨rfl, b1⟩
    have htl : T.length = 64 := by rw [HT.out]; exact streamL_length _ _ _
    have hrt : 0 < T.length := by omega
    have hown := Own.below hown b1
    have hK := (row_below b1 hz).trans hK
    have hz : w.heap.size < w1.heap.size := by have := b1.size; omega
    have hbel := Below.trans hbel (b1.mono (by omega))
    clear b1 HB
    go_wp2_with fail
    refine wp_region_beginR [] rfl trivial (fun hS => ?_)
    refine qp 0 hS ?_
    refine qp 1 hS ?_
    refine qp 2 hS ?_
    refine qp 3 hS ?_
    refine qp 4 hS ?_
    refine qp 5 hS ?_
    refine qp 6 hS ?_
    refine qp 7 hS ?_
    refine qp 8 hS ?_
    rw [xor_u8]
    obtain ⟨y, hy⟩ : ∃ y, l[n] ^^^ (T)[0] = y := ⟨_, rfl⟩
    rw [hy]
    have hyb : maskB k count nonce l n = y := by
     rw [← hy, maskB, ksB, hm, hr, getD_elem _ _ _ hlt, getD_elem _ _ _ (by rw [← HT.out]; exact hrt)]
     congr 2
     exact HT.out.symm
    clear hy
    refine wpAnyR_all (rs := [9]) (by kernel_rfl) (by simp) (Rws.grow _) hS (fun u1 hu1 hSW => ?_)
    intro i hi
    obtain rfl := List.mem_singleton.1 hi
    refine wpOp_step rfl (fun K hK2 => ?_)
    clear hi hS
    go_simp
    have zu1 : (w1).heap.size ≤ u1.heap.size := hu1.size
    have o1 := Own.alloc (Own.below hown (below_step (Below.drew (Below.refl _ _)) hu1)) (.cells #[.int .u8 (y.toNat : Int)] 5)
    have bu : Below (w.heap.size + 1) (w1) (u1.alloc (.cells #[.int .u8 (y.toNat : Int)] 5)) := Below.alloc ((below_step (Below.drew (Below.refl _ _)) hu1).mono (by omega)) (by omega) _
    have ra : row (u1.alloc (.cells #[.int .u8 (y.toNat : Int)] 5)) u1.heap.size = #[.int .u8 (y.toNat : Int)] := row_alloc_at _ _ _ rfl
    have za : (u1.alloc (.cells #[.int .u8 (y.toNat : Int)] 5)).heap.size = u1.heap.size + 1 := by simp
    obtain ⟨u2, hu2⟩ : ∃ x, u1.alloc (.cells #[.int .u8 (y.toNat : Int)] 5) = x := ⟨_, rfl⟩
    rw [hu2] at o1 bu ra za ⊢
    refine hK2 _ _ ⟨trivial, ?_⟩
    clear hK2 K hSW hu2
    have hS : Rws [] u2 := trivial
    (try simp only [Act.put, List.setIfInBounds_toArray, List.set_cons_zero, List.set_cons_succ])
    refine wpAnyR_all (rs := [10]) (by kernel_rfl) (by simp) (Rws.grow _) hS (fun u3 hu3 hSW => ?_)
    intro i hi
    obtain rfl := List.mem_singleton.1 hi
    refine wpOp_step rfl (fun K hK3 => ?_)
    clear hi hS
    refine wp_append1 rfl inferInstance (w.heap.size + 1) _ _ rfl (o1.below hu3) u1.heap.size 1 (.int .u8 (y.toNat : Int)) rfl ((row_below hu3 (by omega)).trans ra) rfl ?_ (by have := hu3.size; omega) ?_
    ·
     rw [u8s_length, maskN_length]; omega
    intro v' u4 o4 b4
    refine hK3 _ _ ⟨trivial, ?_⟩
    clear hK3 K
    have hS : Rws [] u4 := trivial
    (try simp only [Act.put, List.setIfInBounds_toArray, List.set_cons_zero, List.set_cons_succ])
    refine qp 11 hS ?_
    refine wpAnyR_done (by kernel_rfl) (fun w5 h5 => ?_) _
    have b5 : Below (w.heap.size + 1) (w1) w5 := (bu.trans (hu3.mono (by omega))).trans (b4.trans (h5.mono (by have := b4.size; have := hu3.size; omega)))
    have o5 := o4.below h5
    have e5 : u8s (maskN k count nonce l n) ++ [.int .u8 (y.toNat : Int)] = u8s (maskN k count nonce l (n + 1)) := by rw [maskN_succ, u8s_append, hyb]; rfl
    rw [e5] at o5
    have k5 := (row_below b5 (by omega)).trans hK
    have z5 := b5.size
    clear hu1 hu3 h5 o1 ra bu o4 b4 e5 hS hSW hown hyb
    go_wp2_with fail
    go_roundw
    case rel =>
     refine ⟨n + 1, T, by omega, rfl, ?_, rfl, fun _ => ?_, o5, k5, by omega, hbel.trans (b5.mono (by omega))⟩
     ·
      rw [HC.out, show (n + 1 + 63) / 64 = m + 1 by omega]; congr 1; (try rw [IntKind.wrap_u32]); omega
     ·
      rw [HT.out, show n + 1 - 1 = n by omega, hm]
    case measure => simp [intOf]; omega
   ·
    have e2 : (((r : Nat) : Int) == 0) = false := by simp; omega
    have ht1 : t = streamL k ((count + (m : Int)) % 4294967296) nonce := by rw [ht (by omega), show (n - 1) / 64 = m by omega]
    have htl : t.length = 64 := by rw [ht1]; exact streamL_length _ _ _
    have hrt : r < t.length := by omega
    have HT := Lib.hid ht1
    clear ht1 ht
    have hri : (r : Int) < 64 := by omega
    go_wp2_with fail
    refine wp_region_beginR [] rfl trivial (fun hS => ?_)
    refine qp 0 hS ?_
    refine qp 1 hS ?_
    refine qp 2 hS ?_
    refine qp 3 hS ?_
    refine qp 4 hS ?_
    refine qp 5 hS ?_
    refine qp 6 hS ?_
    refine qp 7 hS ?_
    refine qp 8 hS ?_
    rw [xor_u8]
    obtain ⟨y, hy⟩ : ∃ y, l[n] ^^^ (t)[r] = y := ⟨_, rfl⟩
    rw [hy]
    have hyb : maskB k count nonce l n = y := by
     rw [← hy, maskB, ksB, hm, hr, getD_elem _ _ _ hlt, getD_elem _ _ _ (by rw [← HT.out]; exact hrt)]
     congr 2
     exact HT.out.symm
    clear hy
    refine wpAnyR_all (rs := [9]) (by kernel_rfl) (by simp) (Rws.grow _) hS (fun u1 hu1 hSW => ?_)
    intro i hi
    obtain rfl := List.mem_singleton.1 hi
    refine wpOp_step rfl (fun K hK2 => ?_)
    clear hi hS
    go_simp
    have zu1 : (wr).heap.size ≤ u1.heap.size := hu1.size
    have o1 := Own.alloc (Own.below hown (below_step (Below.drew (Below.refl _ _)) hu1)) (.cells #[.int .u8 (y.toNat : Int)] 5)
    have bu : Below (w.heap.size + 1) (wr) (u1.alloc (.cells #[.int .u8 (y.toNat : Int)] 5)) := Below.alloc ((below_step (Below.drew (Below.refl _ _)) hu1).mono (by omega)) (by omega) _
    have ra : row (u1.alloc (.cells #[.int .u8 (y.toNat : Int)] 5)) u1.heap.size = #[.int .u8 (y.toNat : Int)] := row_alloc_at _ _ _ rfl
    have za : (u1.alloc (.cells #[.int .u8 (y.toNat : Int)] 5)).heap.size = u1.heap.size + 1 := by simp
    obtain ⟨u2, hu2⟩ : ∃ x, u1.alloc (.cells #[.int .u8 (y.toNat : Int)] 5) = x := ⟨_, rfl⟩
    rw [hu2] at o1 bu ra za ⊢
    refine hK2 _ _ ⟨trivial, ?_⟩
    clear hK2 K hSW hu2
    have hS : Rws [] u2 := trivial
    (try simp only [Act.put, List.setIfInBounds_toArray, List.set_cons_zero, List.set_cons_succ])
    refine wpAnyR_all (rs := [10]) (by kernel_rfl) (by simp) (Rws.grow _) hS (fun u3 hu3 hSW => ?_)
    intro i hi
    obtain rfl := List.mem_singleton.1 hi
    refine wpOp_step rfl (fun K hK3 => ?_)
    clear hi hS
    refine wp_append1 rfl inferInstance (w.heap.size + 1) _ _ rfl (o1.below hu3) u1.heap.size 1 (.int .u8 (y.toNat : Int)) rfl ((row_below hu3 (by omega)).trans ra) rfl ?_ (by have := hu3.size; omega) ?_
    ·
     rw [u8s_length, maskN_length]; omega
    intro v' u4 o4 b4
    refine hK3 _ _ ⟨trivial, ?_⟩
    clear hK3 K
    have hS : Rws [] u4 := trivial
    (try simp only [Act.put, List.setIfInBounds_toArray, List.set_cons_zero, List.set_cons_succ])
    refine qp 11 hS ?_
    refine wpAnyR_done (by kernel_rfl) (fun w5 h5 => ?_) _
    have b5 : Below (w.heap.size + 1) (wr) w5 := (bu.trans (hu3.mono (by omega))).trans (b4.trans (h5.mono (by have := b4.size; have := hu3.size; omega)))
    have o5 := o4.below h5
    have e5 : u8s (maskN k count nonce l n) ++ [.int .u8 (y.toNat : Int)] = u8s (maskN k count nonce l (n + 1)) := by rw [maskN_succ, u8s_append, hyb]; rfl
    rw [e5] at o5
    have k5 := (row_below b5 (by omega)).trans hK
    have z5 := b5.size
    clear hu1 hu3 h5 o1 ra bu o4 b4 e5 hS hSW hown hyb
    go_wp2_with fail
    go_roundw
    case rel =>
     refine ⟨n + 1, t, by omega, rfl, ?_, rfl, fun _ => ?_, o5, k5, by omega, hbel.trans (b5.mono (by omega))⟩
     ·
      congr 1; omega
     ·
      rw [HT.out, show n + 1 - 1 = n by omega, hm]
    case measure => simp [intOf]; omega
  ·
   obtain rfl : n = l.length := by omega
   have hc := convS_own (P := Tryz.prog) (src := 113) (dst := 9) hown
   rw [maskN_all] at hc
   go_wp2_with fail
   go_ret
   exact ⟨rfl, hbel⟩
end Go.Proofs.YtakkicppgkmokaaGreat
