/- Contracts of the reference of chapter 6: an element of a key, a key of an element, an inverse. -/
import Derived.Test.YtohhiibgjcbpiaaGrT
set_option linter.unusedSimpArgs false
set_option linter.unusedVariables false
namespace Go.Proofs.Ytohhiibgjcbpiaa
open Go.RowKit
def ints8G (l : List UInt8) : List Nat := l.map UInt8.toNat
theorem ints8G_length (l : List UInt8) : (ints8G l).length = l.length := by simp [ints8G]
theorem ints8G_dig (l : List UInt8) : Dig (ints8G l) := by
  intro x hx
  obtain ⟨b, _, rfl⟩ := List.mem_map.1 hx
  exact b.toNat_lt
/-- a key as a number -/
def nK (k : List UInt8) : Nat := valB ((ints8G k).set 31 ((ints8G k).getD 31 0 % 128))
set_option maxRecDepth 20000 in
set_option maxHeartbeats 2000000 in
theorem placeG_any (k : List UInt8) (w : World) (hk : k.length = 32) :
    Calls Try.prog 16 #[.agg (u8s k).toArray] w fun e w' => e = .returned (.agg (n64s (digB (nK k % pB))).toArray) ∧ Below w.heap.size w w' := by
  have hkl := ints8G_length k
  have hkd := ints8G_dig k
  go_enter Try.func16, Try.ntmps16
  go_wp2_with fail
  obtain ⟨w0, hw0⟩ : ∃ v, (w.alloc (.cells (u8s k).toArray 22)).alloc (.cells (zeros 32 (Value.int .i64 0)).toArray 30) = v := ⟨_, rfl⟩
  have rk0 : row w0 w.heap.size = (u8s k).toArray := by rw [← hw0]; simp [go_sem]
  have rR0 : row w0 (w.heap.size + 1) = (zeros 32 (Value.int .i64 0)).toArray := by rw [← hw0]; simp [go_sem]
  have z0 : w0.heap.size = w.heap.size + 2 := by rw [← hw0]; simp
  have b0 : Below w.heap.size w w0 := by
    rw [← hw0]
    (repeat (first | exact Below.refl _ _ | refine Below.alloc ?_ (by first | (simp; done) | (simp; omega) | omega) _ | refine Below.drew ?_ | refine Below.setRow ?_ (by first | (simp; done) | (simp; omega) | omega) _ | refine Below.setCell ?_ (by first | (simp; done) | (simp; omega) | omega) _))
  rw [hw0]
  clear hw0
  go_loopw [3, 4] (fun v i wr => ∃ n : Nat, n ≤ 32 ∧ i = .int .i64 n ∧ Own wr (w.heap.size + 2) 3 v (n64s ((ints8G k).take n)) ∧ Below (w.heap.size + 2) w0 wr) (fun _ i _ => 32 - (intOf i).toNat)
  case atStart => exact ⟨0, by omega, rfl, Own.nil, by rw [← z0]; exact Below.refl _ _⟩
  case round =>
    obtain ⟨n, hn, rfl, hown, hbel⟩ := hrel
    have hsz := hbel.size
    have rk := (row_below hbel (by omega)).trans rk0
    have rR := (row_below hbel (by omega)).trans rR0
    have zk : w.heap.size < wr.heap.size := by omega
    by_cases hlt : n < 32
    · have c1 : (n : Int) < 32 := by omega
      have c3 : n < k.length := by omega
      obtain ⟨e, he⟩ : ∃ e, k[n].toNat = e := ⟨_, rfl⟩
      have ve : e < 256 := by rw [← he]; exact k[n].toNat_lt
      have hb : (ints8G k).take (n + 1) = (ints8G k).take n ++ [e] := by
        rw [List.take_succ_eq_append_getElem (by omega)]
        congr 1
        simp [ints8G, he]
      have HB := Lib.hid hb
      have hlen : (n64s ((ints8G k).take n)).length + 1 ≤ 1000000 := by rw [n64s_length, List.length_take]; omega
      have HK := Lib.hid hkl
      clear hb hkl
      go_wp2_with (at_builtin; refine wpList_append1 rfl rfl inferInstance (w.heap.size + 2) _ _ rfl hown _ rfl rfl hlen (by omega) ?_)
      intro v3 w3 o3 b3
      go_wp2_with fail
      go_roundw
      case rel => exact ⟨n + 1, by omega, rfl, by rw [HB.out, n64s_append]; exact o3, hbel.trans b3⟩
      case measure => simp [intOf]; omega
    · obtain rfl : n = 32 := by omega
      rw [show ((32 : Nat) : Int) = 32 from rfl]
      rw [List.take_of_length_le (by omega)] at hown
      obtain ⟨L, hL⟩ : ∃ L, ints8G k = L := ⟨_, rfl⟩
      have hnk : nK k = valB (L.set 31 (L.getD 31 0 % 128)) := by rw [nK, hL]
      rw [hL] at hown hkl hkd
      have hL32 : 31 < L.length := by omega
      obtain ⟨g, c, s, rfl, hc, hg, zg, rowg⟩ := hown.ints (by omega)
      obtain ⟨e, he⟩ : ∃ e, L[31] = e := ⟨_, rfl⟩
      have ve : e < 256 := by rw [← he]; exact hkd.get 31 hL32
      obtain ⟨d, hd⟩ : ∃ v, e % 128 = v := ⟨_, rfl⟩
      have md : (e : Int) % 128 = (d : Int) := by omega
      have mt : (e : Int).tmod 128 = (d : Int) := by rw [Int.tmod_eq_emod_of_nonneg (by omega)]; exact md
      rw [getD_at _ _ hL32, he, hd] at hnk
      have ux : 31 < L.length + s.length := by omega
      have tx : (n64s L ++ s)[31]'(by simp; omega) = .int .i64 (e : Int) := by rw [List.getElem_append_left (by simpa using hL32), n64s_get, he]
      have hset : (n64s L ++ s).set 31 (.int .i64 (d : Int)) = n64s (L.set 31 d) ++ s := by rw [set_left _ _ _ _ (by simpa using hL32), n64s_set]
      have hpos : 0 < L.length + s.length := by omega
      obtain ⟨M, hM⟩ : ∃ M, L.set 31 d = M := ⟨_, rfl⟩
      have hMl : M.length = L.length := by rw [← hM, List.length_set]
      have hMd : Dig M := by rw [← hM]; exact hkd.set _ (by omega)
      rw [hM] at hnk hset
      have hI : (31 : Int) < L.length := by omega
      have rM : row (wr.setRow g (n64s M ++ s).toArray) g = (n64s M ++ s).toArray := row_setRow_same (by rw [rowg]; simp; omega) (by rw [rowg]; simp [hMl])
      have rR2 : row (wr.setRow g (n64s M ++ s).toArray) (w.heap.size + 1) = (zeros 32 (Value.int .i64 0)).toArray := by rw [row_setRow_other _ _ _ (by omega)]; exact rR
      have zg2 : g < (wr.setRow g (n64s M ++ s).toArray).heap.size := by simpa using zg
      have zR2 : w.heap.size + 1 < (wr.setRow g (n64s M ++ s).toArray).heap.size := by simp; omega
      have bw2 : Below w.heap.size w (wr.setRow g (n64s M ++ s).toArray) := Below.setRow (b0.trans (hbel.mono (by omega))) (by omega) _
      have hrest := fun W' hr hz => rest_fun M g c s W' hr hz (by omega) (by omega) hMd
      rw [← hnk, hMl] at hrest
      have HRE := Lib.hid (hrest _ rM zg2)
      have hrl := digB_length (nK k % pB)
      obtain ⟨r, hr⟩ : ∃ r, digB (nK k % pB) = r := ⟨_, rfl⟩
      rw [hr] at HRE hrl
      have HR := Lib.hid hr
      clear hr hrest hM hMl hnk hL hkl hd rM
      go_wp2_with fail
      (with_reducible refine HRE.out.mono ?_)
      rintro e w8 ⟨rfl, b8⟩
      have rR8 := (row_below b8 zR2).trans rR2
      have hfin := row_setRow_same (w := w8) (g := w.heap.size + 1) (c := (n64s r).toArray) (by rw [rR8]; simp) (by rw [rR8]; simp [hrl])
      have bw8 := bw2.trans (b8.mono (by simp; omega))
      go_wp2_with fail
      (try simp only [Exit.inBlock, Exit.then])
      refine bodyPost_ret (results_1 rfl (resOk_row rfl ?_)) rfl ?_
      · rw [hfin]
        simp [hrl]
      refine ⟨by rw [hfin, HR.out], ?_⟩
      exact Below.setRow bw8 (by omega) _
/-- an element's key -/
def kB (v : Nat) : List UInt8 := (digB v).map UInt8.ofNat
theorem kB_length (v : Nat) : (kB v).length = 32 := by simp [kB, digB_length]
set_option maxRecDepth 20000 in
set_option maxHeartbeats 2000000 in
theorem keyG_any (v : Nat) (w : World) :
    Calls Try.prog 17 #[.agg (n64s (digB v)).toArray] w fun e w' => e = .returned (.agg (u8s (kB v)).toArray) ∧ Below w.heap.size w w' := by
  have hxl := digB_length v
  have hxd := digB_dig v
  have hkb : kB v = (digB v).map UInt8.ofNat := rfl
  obtain ⟨x, hx⟩ : ∃ x, digB v = x := ⟨_, rfl⟩
  rw [hx] at hxl hxd hkb ⊢
  have HKB := Lib.hid hkb
  clear hkb hx
  go_enter Try.func17, Try.ntmps17
  go_wp2_with fail
  obtain ⟨w0, hw0⟩ : ∃ v, ((w.alloc (.cells (n64s x).toArray 30)).alloc (.cells (zeros 32 (Value.int .u8 0)).toArray 22)).alloc (.cells (zeros 32 (Value.int .u8 0)).toArray 22) = v := ⟨_, rfl⟩
  have rx0 : row w0 w.heap.size = (n64s x).toArray := by rw [← hw0]; simp [go_sem]
  have rR0 : row w0 (w.heap.size + 1) = (zeros 32 (Value.int .u8 0)).toArray := by rw [← hw0]; simp [go_sem]
  have rD0 : row w0 (w.heap.size + 1 + 1) = (u8s ((x.map UInt8.ofNat).take 0 ++ List.replicate (32 - 0) 0)).toArray := by
    rw [← hw0]
    rw [show (x.map UInt8.ofNat).take 0 ++ List.replicate (32 - 0) (0 : UInt8) = List.replicate 32 0 from rfl]
    simp [go_sem, u8s, zeros]
  have z0 : w0.heap.size = w.heap.size + 3 := by rw [← hw0]; simp
  have b0 : Below w.heap.size w w0 := by
    rw [← hw0]
    (repeat (first | exact Below.refl _ _ | refine Below.alloc ?_ (by first | (simp; done) | (simp; omega) | omega) _ | refine Below.drew ?_ | refine Below.setRow ?_ (by first | (simp; done) | (simp; omega) | omega) _ | refine Below.setCell ?_ (by first | (simp; done) | (simp; omega) | omega) _))
  rw [hw0]
  clear hw0
  go_loopw [4] (fun i wr => ∃ n : Nat, n ≤ 32 ∧ i = .int .i64 n ∧ row wr (w.heap.size + 1 + 1) = (u8s ((x.map UInt8.ofNat).take n ++ List.replicate (32 - n) 0)).toArray ∧ Below (w.heap.size + 2) w0 wr) (fun i _ => 32 - (intOf i).toNat)
  case atStart => exact ⟨0, by omega, rfl, rD0, by skip; exact Below.refl _ _⟩
  case round =>
    clear rD0
    obtain ⟨n, hn, rfl, rD, hbel⟩ := hrel
    have hsz := hbel.size
    have rx := (row_below hbel (by omega)).trans rx0
    have rR := (row_below hbel (by omega)).trans rR0
    have zx : w.heap.size < wr.heap.size := by omega
    have zD : w.heap.size + 1 + 1 < wr.heap.size := by omega
    have hml : (x.map UInt8.ofNat).length = 32 := by simpa using hxl
    obtain ⟨L, hL⟩ : ∃ L, (x.map UInt8.ofNat).take n ++ List.replicate (32 - n) (0 : UInt8) = L := ⟨_, rfl⟩
    have hLl : L.length = 32 := by rw [← hL]; simp; omega
    rw [hL] at rD
    have HL := Lib.hid hL
    clear hL
    by_cases hlt : n < 32
    · have c1 : (n : Int) < 32 := by omega
      have c3 : n < x.length := by omega
      have c4 : n < L.length := by omega
      obtain ⟨y, hy⟩ : ∃ y : UInt8, x[n] = y.toNat := ⟨UInt8.ofNat x[n], by have := hxd.get n c3; simp; omega⟩
      have vy := y.toNat_lt
      have tx : (n64s x)[n]'(by simpa using c3) = .int .i64 (y.toNat : Int) := by rw [n64s_get, hy]
      have hs : (x.map UInt8.ofNat).take (n + 1) ++ List.replicate (32 - (n + 1)) 0 = L.set n y := by
        have hyv : (x.map UInt8.ofNat)[n]'(by omega) = y := by rw [List.getElem_map, hy]; simp
        rw [← HL.out, List.set_append_right _ _ (by rw [List.length_take]; omega), show n - ((x.map UInt8.ofNat).take n).length = 0 by rw [List.length_take]; omega, show 32 - n = (32 - (n + 1)) + 1 by omega, List.replicate_succ, List.set_cons_zero, List.take_succ_eq_append_getElem (by omega), hyv, List.append_assoc]
        rfl
      have HS := Lib.hid hs
      have hset := u8s_setB L n y
      have hr7 := row_setRow_same (w := wr) (g := w.heap.size + 1 + 1) (c := (u8s (L.set n y)).toArray) (by rw [rD]; simp; omega) (by rw [rD]; simp)
      have b7 : Below (w.heap.size + 2) w0 (wr.setRow (w.heap.size + 1 + 1) (u8s (L.set n y)).toArray) := Below.setRow hbel (Nat.le_refl _) _
      have hL0 : 0 < L.length := by omega
      have HXL := Lib.hid hxl
      clear hs hy hml hxl
      go_wp2_with fail
      go_roundw
      case rel => exact ⟨n + 1, by omega, rfl, by rw [HS.out]; exact hr7, b7⟩
      case measure => simp [intOf]; omega
    · obtain rfl : n = 32 := by omega
      rw [show ((32 : Nat) : Int) = 32 from rfl]
      have hLs : L = kB v := by rw [HKB.out, ← HL.out, List.take_of_length_le (by omega)]; simp
      rw [hLs] at rD
      have hsl := kB_length v
      have hb8 : Below w.heap.size w wr := b0.trans (hbel.mono (by omega))
      obtain ⟨r, hr⟩ : ∃ r, kB v = r := ⟨_, rfl⟩
      rw [hr] at rD hsl
      have HR := Lib.hid hr
      have hfin := row_setRow_same (w := wr) (g := w.heap.size + 1) (c := (u8s r).toArray) (by rw [rR]; simp) (by rw [rR]; simp [hsl])
      clear hLs hLl hr
      go_wp2_with fail
      (try simp only [Exit.inBlock, Exit.then])
      refine bodyPost_ret (results_1 rfl (resOk_row rfl ?_)) rfl ?_
      · rw [hfin]
        simp [hsl]
      refine ⟨by rw [hfin, HR.out], ?_⟩
      exact Below.setRow hb8 (by omega) _
end Go.Proofs.Ytohhiibgjcbpiaa
