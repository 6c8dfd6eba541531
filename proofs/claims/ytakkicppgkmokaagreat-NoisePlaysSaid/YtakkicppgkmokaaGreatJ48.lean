/- Texts of this proof, merged: RfN, RfT, RfC. -/
import Derived.Test.YtakkicppgkmokaaGreatJ6
import Derived.Test.YtakkicppgkmokaaGreatJ1
import Derived.Lib.Hide
set_option linter.unusedSimpArgs false
set_option linter.unusedVariables false
namespace Go.Proofs.YtakkicppgkmokaaGreat
section
open Go.RowKit
set_option maxRecDepth 20000 in
set_option maxHeartbeats 2000000 in
theorem plusR_any (a b : List Nat) (ga ca gb cb : Nat) (sa sb : List Value) (w : World) (hra : row w ga = (n64s a ++ sa).toArray) (hrb : row w gb = (n64s b ++ sb).toArray)
  (za : ga < w.heap.size) (zb : gb < w.heap.size) (a0 : a ≠ []) (da : Dig a) (db : Dig b) (la : a.length ≤ 1000) (lb : b.length ≤ 1000) :
  Calls Tryz.prog 132 #[.slice (some ⟨ga, 0, none⟩) a.length ca, .slice (some ⟨gb, 0, none⟩) b.length cb] w fun e w' => ∃ v l, e = .returned v ∧ Own w' w.heap.size 3 v (n64s l) ∧ l ≠ [] ∧ Dig l ∧ valB l = valB a + valB b ∧ (l.length ≤ a.length + 1 ∨ l.length ≤ b.length + 1) ∧ b.length ≤ l.length ∧ Below w.heap.size w w' := by
 obtain ⟨M, hM1, hM2, hM3⟩ : ∃ M, a.length ≤ M ∧ b.length ≤ M ∧ (M ≤ a.length ∨ M ≤ b.length) := by
  rcases Nat.le_total a.length b.length with h | h
  ·
   exact ⟨b.length, h, Nat.le_refl _, .inr (Nat.le_refl _)⟩
  ·
   exact ⟨a.length, Nat.le_refl _, h, .inl (Nat.le_refl _)⟩
 have a1 : 0 < a.length := List.length_pos_iff.2 a0
 go_enter Tryz.func132, Tryz.ntmps132
 go_wp2_with fail
 go_loopw [5, 6, 7] (fun v c i wr => ∃ (n k : Nat) (l : List Nat), i = .int .i64 n ∧ c = .int .i64 k ∧ k ≤ 1 ∧ (n ≤ M ∨ n = M + 1 ∧ k = 0) ∧ l.length = n ∧ Dig l ∧ valB l + 256 ^ n * k = valB (a.take n) + valB (b.take n) ∧ Own wr w.heap.size 3 v (n64s l) ∧ Below w.heap.size w wr) (fun _ _ i _ => M + 2 - (intOf i).toNat)
 case atStart => exact ⟨0, 0, [], rfl, rfl, by omega, .inl (by omega), rfl, Dig.nil, by simp [valB], Own.nil, Below.refl _ _⟩
 case round =>
  obtain ⟨n, k, l, rfl, rfl, hk, hnM, hll, hd, hval, hown, hbel⟩ := hrel
  have hsz := hbel.size
  have ra := (row_below hbel za).trans hra
  have rb := (row_below hbel zb).trans hrb
  have za2 : ga < wr.heap.size := by omega
  have zb2 : gb < wr.heap.size := by omega
  have hnI : (n : Int) ≤ 3000 := by omega
  have HV := Lib.hid hval
  have HD := Lib.hid hd
  have HL := Lib.hid hll
  have HM := Lib.hid hnM
  clear hval hd hll hnM hra hrb
  by_cases ha0 : n < a.length
  ·
   have ja : (n : Int) < a.length := by omega
   by_cases hb0 : n < b.length
   ·
    have jb : (n : Int) < b.length := by omega
    obtain ⟨x, hx⟩ : ∃ v, a[n] = v := ⟨_, rfl⟩
    have vx : x < 256 := by rw [← hx]; exact da.get n ha0
    have ux : n < a.length + sa.length := by omega
    have tx : (n64s a ++ sa)[n]'(by simp; omega) = .int .i64 (x : Int) := by rw [List.getElem_append_left (by simpa using ha0), n64s_get, hx]
    have Gx := Lib.hid (show a.getD n 0 = x by rw [getD_at _ _ ha0]; exact hx)
    obtain ⟨y, hy⟩ : ∃ v, b[n] = v := ⟨_, rfl⟩
    have vy : y < 256 := by rw [← hy]; exact db.get n hb0
    have uy : n < b.length + sb.length := by omega
    have ty : (n64s b ++ sb)[n]'(by simp; omega) = .int .i64 (y : Int) := by rw [List.getElem_append_left (by simpa using hb0), n64s_get, hy]
    have Gy := Lib.hid (show b.getD n 0 = y by rw [getD_at _ _ hb0]; exact hy)
    obtain ⟨q1, hq1⟩ : ∃ v, k + x = v := ⟨_, rfl⟩
    obtain ⟨q2, hq2⟩ : ∃ v, q1 + y = v := ⟨_, rfl⟩
    have f1 : IntKind.i64.wrap ((k : Int) + (x : Int)) = (q1 : Int) := wrapN _ _ (by omega) (by omega)
    have f2 : IntKind.i64.wrap ((q1 : Int) + (y : Int)) = (q2 : Int) := wrapN _ _ (by omega) (by omega)
    obtain ⟨d, hd⟩ : ∃ v, q2 % 256 = v := ⟨_, rfl⟩
    obtain ⟨k2, hk2⟩ : ∃ v, q2 / 256 = v := ⟨_, rfl⟩
    obtain ⟨m1, m2⟩ := modt _ _ hd
    obtain ⟨m3, m4⟩ := divt _ _ hk2
    have hqq : k + x + y = q2 := by omega
    have hs := carry_snoc l n k x y _ _ HL.out HV.out
    rw [hqq, hd, hk2, ← Gx.out, ← Gy.out, ← valB_take_succ, ← valB_take_succ] at hs
    have hk3 : k2 ≤ 1 := by omega
    have hd3 : d < 256 := by omega
    have hM4 : n + 1 ≤ M ∨ n + 1 = M + 1 ∧ k2 = 0 := by have := HM.out; omega
    have HS := Lib.hid hs
    have HM4 := Lib.hid hM4
    clear hs hM4 hqq hd hk2 hq1 hq2 Gx Gy
    go_wp2_with (at_builtin; refine wpList_append1 rfl rfl inferInstance w.heap.size _ (n64s l) rfl hown _ rfl rfl (by have := HL.out; have := HM.out; simp; omega) hsz ?_)
    intro v' w2 o2 b2
    go_wp2_with fail
    go_roundw
    case rel =>
     refine ⟨n + 1, k2, l ++ [d], rfl, rfl, hk3, HM4.out, by have := HL.out; simp; omega, HD.out.snoc hd3, HS.out, by rw [n64s_append]; exact o2, hbel.trans b2⟩
    case measure => have := HM.out; simp [intOf]; omega
   ·
    have jb : ¬ (n : Int) < b.length := by omega
    obtain ⟨x, hx⟩ : ∃ v, a[n] = v := ⟨_, rfl⟩
    have vx : x < 256 := by rw [← hx]; exact da.get n ha0
    have ux : n < a.length + sa.length := by omega
    have tx : (n64s a ++ sa)[n]'(by simp; omega) = .int .i64 (x : Int) := by rw [List.getElem_append_left (by simpa using ha0), n64s_get, hx]
    have Gx := Lib.hid (show a.getD n 0 = x by rw [getD_at _ _ ha0]; exact hx)
    obtain ⟨y, hy⟩ : ∃ v, (0 : Nat) = v := ⟨_, rfl⟩
    have vy : y < 256 := by omega
    have Gy := Lib.hid (show b.getD n 0 = y by rw [getD_past _ _ (by omega)]; exact hy)
    obtain ⟨q1, hq1⟩ : ∃ v, k + x = v := ⟨_, rfl⟩
    obtain ⟨q2, hq2⟩ : ∃ v, q1 + y = v := ⟨_, rfl⟩
    have f1 : IntKind.i64.wrap ((k : Int) + (x : Int)) = (q1 : Int) := wrapN _ _ (by omega) (by omega)
    obtain rfl : q1 = q2 := by omega
    obtain ⟨d, hd⟩ : ∃ v, q1 % 256 = v := ⟨_, rfl⟩
    obtain ⟨k2, hk2⟩ : ∃ v, q1 / 256 = v := ⟨_, rfl⟩
    obtain ⟨m1, m2⟩ := modt _ _ hd
    obtain ⟨m3, m4⟩ := divt _ _ hk2
    have hqq : k + x + y = q1 := by omega
    have hs := carry_snoc l n k x y _ _ HL.out HV.out
    rw [hqq, hd, hk2, ← Gx.out, ← Gy.out, ← valB_take_succ, ← valB_take_succ] at hs
    have hk3 : k2 ≤ 1 := by omega
    have hd3 : d < 256 := by omega
    have hM4 : n + 1 ≤ M ∨ n + 1 = M + 1 ∧ k2 = 0 := by have := HM.out; omega
    have HS := Lib.hid hs
    have HM4 := Lib.hid hM4
    clear hs hM4 hqq hd hk2 hq1 hq2 Gx Gy hy
    go_wp2_with (at_builtin; refine wpList_append1 rfl rfl inferInstance w.heap.size _ (n64s l) rfl hown _ rfl rfl (by have := HL.out; have := HM.out; simp; omega) hsz ?_)
    intro v' w2 o2 b2
    go_wp2_with fail
    go_roundw
    case rel =>
     refine ⟨n + 1, k2, l ++ [d], rfl, rfl, hk3, HM4.out, by have := HL.out; simp; omega, HD.out.snoc hd3, HS.out, by rw [n64s_append]; exact o2, hbel.trans b2⟩
    case measure => have := HM.out; simp [intOf]; omega
  ·
   have ja : ¬ (n : Int) < a.length := by omega
   by_cases hb0 : n < b.length
   ·
    have jb : (n : Int) < b.length := by omega
    obtain ⟨x, hx⟩ : ∃ v, (0 : Nat) = v := ⟨_, rfl⟩
    have vx : x < 256 := by omega
    have Gx := Lib.hid (show a.getD n 0 = x by rw [getD_past _ _ (by omega)]; exact hx)
    obtain ⟨y, hy⟩ : ∃ v, b[n] = v := ⟨_, rfl⟩
    have vy : y < 256 := by rw [← hy]; exact db.get n hb0
    have uy : n < b.length + sb.length := by omega
    have ty : (n64s b ++ sb)[n]'(by simp; omega) = .int .i64 (y : Int) := by rw [List.getElem_append_left (by simpa using hb0), n64s_get, hy]
    have Gy := Lib.hid (show b.getD n 0 = y by rw [getD_at _ _ hb0]; exact hy)
    obtain ⟨q1, hq1⟩ : ∃ v, k + x = v := ⟨_, rfl⟩
    obtain ⟨q2, hq2⟩ : ∃ v, q1 + y = v := ⟨_, rfl⟩
    obtain rfl : k = q1 := by omega
    have f2 : IntKind.i64.wrap ((k : Int) + (y : Int)) = (q2 : Int) := wrapN _ _ (by omega) (by omega)
    obtain ⟨d, hd⟩ : ∃ v, q2 % 256 = v := ⟨_, rfl⟩
    obtain ⟨k2, hk2⟩ : ∃ v, q2 / 256 = v := ⟨_, rfl⟩
    obtain ⟨m1, m2⟩ := modt _ _ hd
    obtain ⟨m3, m4⟩ := divt _ _ hk2
    have hqq : k + x + y = q2 := by omega
    have hs := carry_snoc l n k x y _ _ HL.out HV.out
    rw [hqq, hd, hk2, ← Gx.out, ← Gy.out, ← valB_take_succ, ← valB_take_succ] at hs
    have hk3 : k2 ≤ 1 := by omega
    have hd3 : d < 256 := by omega
    have hM4 : n + 1 ≤ M ∨ n + 1 = M + 1 ∧ k2 = 0 := by have := HM.out; omega
    have HS := Lib.hid hs
    have HM4 := Lib.hid hM4
    clear hs hM4 hqq hd hk2 hq1 hq2 Gx Gy hx
    go_wp2_with (at_builtin; refine wpList_append1 rfl rfl inferInstance w.heap.size _ (n64s l) rfl hown _ rfl rfl (by have := HL.out; have := HM.out; simp; omega) hsz ?_)
    intro v' w2 o2 b2
    go_wp2_with fail
    go_roundw
    case rel =>
     refine ⟨n + 1, k2, l ++ [d], rfl, rfl, hk3, HM4.out, by have := HL.out; simp; omega, HD.out.snoc hd3, HS.out, by rw [n64s_append]; exact o2, hbel.trans b2⟩
    case measure => have := HM.out; simp [intOf]; omega
   ·
    have jb : ¬ (n : Int) < b.length := by omega
    by_cases gk : 0 < k
    ·
     have jk : (0 : Int) < (k : Int) := by omega
     obtain ⟨x, hx⟩ : ∃ v, (0 : Nat) = v := ⟨_, rfl⟩
     have vx : x < 256 := by omega
     have Gx := Lib.hid (show a.getD n 0 = x by rw [getD_past _ _ (by omega)]; exact hx)
     obtain ⟨y, hy⟩ : ∃ v, (0 : Nat) = v := ⟨_, rfl⟩
     have vy : y < 256 := by omega
     have Gy := Lib.hid (show b.getD n 0 = y by rw [getD_past _ _ (by omega)]; exact hy)
     obtain ⟨q1, hq1⟩ : ∃ v, k + x = v := ⟨_, rfl⟩
     obtain ⟨q2, hq2⟩ : ∃ v, q1 + y = v := ⟨_, rfl⟩
     obtain rfl : k = q1 := by omega
     obtain rfl : k = q2 := by omega
     obtain ⟨d, hd⟩ : ∃ v, k % 256 = v := ⟨_, rfl⟩
     obtain ⟨k2, hk2⟩ : ∃ v, k / 256 = v := ⟨_, rfl⟩
     obtain ⟨m1, m2⟩ := modt _ _ hd
     obtain ⟨m3, m4⟩ := divt _ _ hk2
     have hqq : k + x + y = k := by omega
     have hs := carry_snoc l n k x y _ _ HL.out HV.out
     rw [hqq, hd, hk2, ← Gx.out, ← Gy.out, ← valB_take_succ, ← valB_take_succ] at hs
     have hk3 : k2 ≤ 1 := by omega
     have hd3 : d < 256 := by omega
     have hM4 : n + 1 ≤ M ∨ n + 1 = M + 1 ∧ k2 = 0 := by have := HM.out; omega
     have HS := Lib.hid hs
     have HM4 := Lib.hid hM4
     clear hs hM4 hqq hd hk2 hq1 hq2 Gx Gy hx hy
     go_wp2_with (at_builtin; refine wpList_append1 rfl rfl inferInstance w.heap.size _ (n64s l) rfl hown _ rfl rfl (by have := HL.out; have := HM.out; simp; omega) hsz ?_)
     intro v' w2 o2 b2
     go_wp2_with fail
     go_roundw
     case rel =>
      refine ⟨n + 1, k2, l ++ [d], rfl, rfl, hk3, HM4.out, by have := HL.out; simp; omega, HD.out.snoc hd3, HS.out, by rw [n64s_append]; exact o2, hbel.trans b2⟩
     case measure => have := HM.out; simp [intOf]; omega
    ·
     have k0 : ¬ (0 : Int) < (k : Int) := by omega
     obtain rfl : k = 0 := by omega
     go_wp2_with fail
     go_ret
     refine ⟨_, rfl, l, hown, ?_, HD.out, ?_, ?_, by have := HL.out; omega, hbel⟩
     ·
      intro h0
      have := HL.out
      rw [h0] at this
      simp at this
      omega
     ·
      have := HV.out
      rw [List.take_of_length_le (by omega), List.take_of_length_le (by omega)] at this
      simpa using this
     ·
      have := HL.out
      have := HM.out
      omega
end
section
open Go.RowKit
set_option maxRecDepth 20000 in
set_option maxHeartbeats 2000000 in
theorem timesR_any (a b : List Nat) (ga ca gb cb : Nat) (sa sb : List Value) (w : World) (hra : row w ga = (n64s a ++ sa).toArray) (hrb : row w gb = (n64s b ++ sb).toArray)
  (za : ga < w.heap.size) (zb : gb < w.heap.size) (a0 : a ≠ []) (da : Dig a) (db : Dig b) (la : a.length ≤ 1000) (lb : b.length ≤ 1000) :
  Calls Tryz.prog 131 #[.slice (some ⟨ga, 0, none⟩) a.length ca, .slice (some ⟨gb, 0, none⟩) b.length cb] w fun e w' => ∃ v l, e = .returned v ∧ Own w' w.heap.size 3 v (n64s l) ∧ l.length = a.length + b.length ∧ Dig l ∧ valB l = valB a * valB b ∧ Below w.heap.size w w' := by
 obtain ⟨N, hN⟩ : ∃ N, a.length + b.length = N := ⟨_, rfl⟩
 have hNI : IntKind.i64.wrap ((a.length : Int) + (b.length : Int)) = (N : Int) := wrapN _ _ (by omega) (by omega)
 have hN2 : (N : Int) ≤ 2000 := by omega
 have hN0 : 0 < N := by have := List.length_pos_iff.2 a0; omega
 obtain ⟨w1, hmk, o1, b1⟩ := make_own (P := Tryz.prog) (w := w) (t := 103) inferInstance .i64 .i64 N (by omega)
 obtain ⟨X, hX⟩ : ∃ X, w.heap.size = X := ⟨_, rfl⟩
 rw [hX] at hmk o1 b1 za zb ⊢
 have o1 : Own w1 X 3 (.slice (some ⟨X, 0, none⟩) N N) (n64s (List.replicate N 0)) := by
  have e : List.replicate N (Value.int .i64 0) = n64s (List.replicate N 0) := by simp [n64s]
  rw [e] at o1
  exact o1
 have zX0 : X ≤ w.heap.size := by omega
 clear hX
 go_enter Tryz.func131, Tryz.ntmps131
 go_wp2_with fail
 go_loopw [6] (fun i wr => ∃ (n : Nat) (l : List Nat), n ≤ a.length ∧ i = .int .i64 n ∧ l.length = N ∧ Dig l ∧ valB l = valB (a.take n) * valB b ∧ (∀ k, n + b.length ≤ k → l.getD k 0 = 0) ∧ Own wr X 3 (.slice (some ⟨X, 0, none⟩) N N) (n64s l) ∧ Below X w wr) (fun i _ => a.length - (intOf i).toNat)
 case atStart => exact ⟨0, List.replicate N 0, by omega, rfl, by simp, Dig.zeros N, by rw [valB_zeros]; simp [valB], fun k _ => by simp [List.getD_eq_getElem?_getD, List.getElem?_replicate]; split <;> rfl, o1, b1⟩
 case round =>
  clear o1 b1
  obtain ⟨n, l, hna, rfl, hll, hd, hval, hzer, hown, hbel⟩ := hrel
  have hsz := hbel.size
  by_cases hlt : n < a.length
  ·
   have ja : (n : Int) < a.length := by omega
   obtain ⟨x, hx⟩ : ∃ v, a[n] = v := ⟨_, rfl⟩
   have vx : x < 256 := by rw [← hx]; exact da.get n hlt
   have ux : n < a.length + sa.length := by omega
   have tx : (n64s a ++ sa)[n]'(by simp; omega) = .int .i64 (x : Int) := by rw [List.getElem_append_left (by simpa using hlt), n64s_get, hx]
   have hG : a.getD n 0 = x := by rw [getD_at _ _ hlt]; exact hx
   have hT := valB_take_succ a n
   rw [hG] at hT
   have HT := Lib.hid hT
   have HV := Lib.hid hval
   have HZ := Lib.hid hzer
   clear hT hG hval hzer
   go_wp2_with fail
   go_loopw [7, 8] (fun c j wq => ∃ (m k : Nat) (l' : List Nat), m ≤ b.length ∧ j = .int .i64 m ∧ c = .int .i64 k ∧ k ≤ 255 ∧ l'.length = N ∧ Dig l' ∧ valB l' + 256 ^ (n + m) * k = valB l + 256 ^ n * (x * valB (b.take m)) ∧ (∀ i, n + b.length ≤ i → l'.getD i 0 = 0) ∧ Own wq X 3 (.slice (some ⟨X, 0, none⟩) N N) (n64s l') ∧ Below X w wq) (fun _ j _ => b.length - (intOf j).toNat)
   case atStart => exact ⟨0, 0, l, by omega, rfl, rfl, by omega, hll, hd, by simp [valB], HZ.out, hown, hbel⟩
   case round =>
    clear hown hbel hsz hd hll
    obtain ⟨m, k, l', hmb, rfl, rfl, hk, hll, hd, hval, hzer, hown, hbel⟩ := hrel
    have hsz := hbel.size
    have ra := (row_below hbel za).trans hra
    have rb := (row_below hbel zb).trans hrb
    have za2 : ga < wr.heap.size := by omega
    have zb2 : gb < wr.heap.size := by omega
    obtain ⟨rX, zX, _⟩ := hown.full
    have HV2 := Lib.hid hval
    have HZ2 := Lib.hid hzer
    clear hval hzer
    by_cases hlt2 : m < b.length
    ·
     have jb : (m : Int) < b.length := by omega
     obtain ⟨y, hy⟩ : ∃ v, b[m] = v := ⟨_, rfl⟩
     have vy : y < 256 := by rw [← hy]; exact db.get m hlt2
     have uy : m < b.length + sb.length := by omega
     have ty : (n64s b ++ sb)[m]'(by simp; omega) = .int .i64 (y : Int) := by rw [List.getElem_append_left (by simpa using hlt2), n64s_get, hy]
     have hG : b.getD m 0 = y := by rw [getD_at _ _ hlt2]; exact hy
     have hT2 := valB_take_succ b m
     rw [hG] at hT2
     obtain ⟨p, hp⟩ : ∃ p, n + m = p := ⟨_, rfl⟩
     have hpN : p < N := by omega
     have hpI : (p : Int) < N := by omega
     have hpl : p < l'.length := by omega
     have fp : IntKind.i64.wrap ((n : Int) + (m : Int)) = (p : Int) := wrapN _ _ (by omega) (by omega)
     obtain ⟨O, hO⟩ : ∃ O, l'[p] = O := ⟨_, rfl⟩
     have vO : O < 256 := by rw [← hO]; exact hd.get p hpl
     obtain ⟨z, hz⟩ : ∃ z, x * y = z := ⟨_, rfl⟩
     have vz : z ≤ 65025 := by rw [← hz]; exact Nat.mul_le_mul (show x ≤ 255 by omega) (show y ≤ 255 by omega)
     obtain ⟨q0, hq0⟩ : ∃ q, k + O = q := ⟨_, rfl⟩
     obtain ⟨q, hq⟩ : ∃ v, q0 + z = v := ⟨_, rfl⟩
     have f1 : IntKind.i64.wrap ((k : Int) + (O : Int)) = (q0 : Int) := wrapN _ _ (by omega) (by omega)
     have f2 : IntKind.i64.wrap ((x : Int) * (y : Int)) = (z : Int) := wrapN _ _ (by rw [← hz]; simp) (by omega)
     have f3 : IntKind.i64.wrap ((q0 : Int) + (z : Int)) = (q : Int) := wrapN _ _ (by omega) (by omega)
     obtain ⟨d, hd2⟩ : ∃ v, q % 256 = v := ⟨_, rfl⟩
     obtain ⟨k2, hk2⟩ : ∃ v, q / 256 = v := ⟨_, rfl⟩
     obtain ⟨m1, m2⟩ := modt _ _ hd2
     obtain ⟨m3, m4⟩ := divt _ _ hk2
     have hk3 : k2 ≤ 255 := by omega
     have hd3 : d < 256 := by omega
     have hs : valB (l'.set p d) + 256 ^ (n + (m + 1)) * k2 = valB l + 256 ^ n * (x * valB (b.take (m + 1))) := by
      have hpp := hp
      subst hpp
      rw [hT2, ← hd2, ← hk2]
      exact times_step l' n m k x y _ _ q hpl (by rw [hO, hz, hq0, hq]) HV2.out
     have HS := Lib.hid hs
     have HP := Lib.hid hp
     clear hs hp hT2 hG hd2 hk2 hq hq0 hz
     go_wp2_with fail
     refine wp_region_beginR [(X, (n64s l').toArray), (ga, (n64s a ++ sa).toArray), (gb, (n64s b ++ sb).toArray)] rfl (by simp only [Rws]; (repeat (first | exact trivial | refine ⟨(by first | assumption | (simp [go_sem, *]; done)), (by first | omega | (simp; done) | (simp; omega)), ?_⟩))) (fun hS => ?_)
     refine qp 0 hS ?_
     refine qp 1 hS ?_
     refine qp 2 hS ?_
     refine qp 3 hS ?_
     refine qp 4 hS ?_
     refine qp 5 hS ?_
     refine qp 6 hS ?_
     refine qp 7 hS ?_
     refine qp 8 hS ?_
     refine qp 9 hS ?_
     refine qp 10 hS ?_
     refine qp 11 hS ?_
     refine qp 12 hS ?_
     refine qp 13 hS ?_
     refine qp 14 hS ?_
     refine qp 15 hS ?_
     refine qp 16 hS ?_
     refine qp 17 hS ?_
     refine qp 18 hS ?_
     refine wpAnyR_done (by kernel_rfl) (fun w2 b2 => ?_) _
     replace b2 : Below (wr).heap.size (wr) w2 := below_step (Below.drew (Below.refl _ _)) b2
     have o2 := hown.below b2
     have z2 := b2.size
     obtain ⟨rX2, zX2, _⟩ := o2.full
     have o3 := o2.setFull (u := .int .i64 (d : Int)) (j := p) (by simpa using hpl)
     have b3 : Below X w (w2.setRow X ((n64s l').set p (.int .i64 (d : Int))).toArray) := Below.setRow (hbel.trans (b2.mono (by omega))) (Nat.le_refl _) _
     rw [n64s_set] at o3 b3
     clear b2 o2 rX hown hbel ra rb
     go_wp2_with fail
     go_roundw
     case rel => exact ⟨m + 1, k2, l'.set p d, by omega, rfl, rfl, hk3, by simpa using hll, hd.set _ hd3, HS.out, fun i hi => by rw [getD_setN _ _ _ _ hpl, if_neg (by have := HP.out; omega)]; exact HZ2.out i hi, o3, b3⟩
     case measure => simp [intOf]; omega
    ·
     obtain rfl : m = b.length := by omega
     have jb : ¬ (b.length : Int) < b.length := by omega
     obtain ⟨p, hp⟩ : ∃ p, n + b.length = p := ⟨_, rfl⟩
     have hpN : p < N := by omega
     have hpI : (p : Int) < N := by omega
     have hpl : p < l'.length := by omega
     have fp : IntKind.i64.wrap ((n : Int) + (b.length : Int)) = (p : Int) := wrapN _ _ (by omega) (by omega)
     have hO : l'[p] = 0 := by rw [← getD_at _ _ hpl]; exact HZ2.out p (by omega)
     have hs : valB (l'.set p k) = valB (a.take (n + 1)) * valB b := by
      have h1 := HV2.out
      rw [hp, List.take_of_length_le (Nat.le_refl _), HV.out] at h1
      rw [times_end l' p k _ hpl hO h1, HT.out, Nat.add_mul, Nat.mul_assoc]
     have HS := Lib.hid hs
     have HP := Lib.hid hp
     have o3 := hown.setFull (u := .int .i64 (k : Int)) (j := p) (by simpa using hpl)
     have b3 : Below X w (wr.setRow X ((n64s l').set p (.int .i64 (k : Int))).toArray) := Below.setRow hbel (Nat.le_refl _) _
     rw [n64s_set] at o3 b3
     clear hs hp hO ra rb hbel hown
     go_wp2_with fail
     go_roundw
     case rel => exact ⟨n + 1, l'.set p k, by omega, rfl, by simpa using hll, hd.set _ (by omega), HS.out, fun i hi => by rw [getD_setN _ _ _ _ hpl, if_neg (by have := HP.out; omega)]; exact HZ2.out i (by omega), o3, b3⟩
     case measure => simp [intOf]; omega
  ·
   obtain rfl : n = a.length := by omega
   go_wp2_with fail
   go_ret
   refine ⟨_, l, rfl, hown, by omega, hd, ?_, hbel⟩
   rw [hval, List.take_of_length_le (Nat.le_refl _)]
end
section
open Go.RowKit
def clampD (k : List UInt8) (i : Nat) : Nat :=
 if i % 4 = 3 then (k.getD i 0).toNat % 16 else if i % 4 = 0 ∧ 0 < i then (k.getD i 0).toNat / 4 * 4 else (k.getD i 0).toNat
def clampN (k : List UInt8) (n : Nat) : List Nat := (List.range n).map (clampD k)
theorem clampN_succ (k : List UInt8) (n : Nat) : clampN k (n + 1) = clampN k n ++ [clampD k n] := by simp [clampN, List.range_succ]
theorem clampN_length (k : List UInt8) (n : Nat) : (clampN k n).length = n := by simp [clampN]
theorem clampD_lt (k : List UInt8) (i : Nat) : clampD k i < 256 := by
 have := (k.getD i 0).toNat_lt
 unfold clampD
 split
 ·
  omega
 ·
  split <;> omega
theorem clampN_dig (k : List UInt8) (n : Nat) : Dig (clampN k n) := by
 intro x hx
 obtain ⟨i, _, rfl⟩ := List.mem_map.1 hx
 exact clampD_lt k i
theorem getD_b (l : List UInt8) (i : Nat) (h : i < l.length) : l.getD i 0 = l[i] := by simp [List.getD_eq_getElem?_getD, h]
set_option maxRecDepth 20000 in
set_option maxHeartbeats 4000000 in
theorem clampR_any (k : List UInt8) (w : World) (hk : k.length = 32) :
  Calls Tryz.prog 129 #[.agg (u8s k).toArray] w fun e w' => ∃ v, e = .returned v ∧ Own w' w.heap.size 3 v (n64s (clampN k 16)) ∧ Below w.heap.size w w' := by
 go_enter Tryz.func129, Tryz.ntmps129
 go_wp2_with fail
 go_loopw [3, 4] (fun v i wr => ∃ n : Nat, n ≤ 16 ∧ i = .int .i64 n ∧ row wr w.heap.size = (u8s k).toArray ∧ w.heap.size < wr.heap.size ∧ Own wr (w.heap.size + 1) 3 v (n64s (clampN k n)) ∧ Below w.heap.size w wr) (fun _ i _ => 16 - (intOf i).toNat)
 case atStart => exact ⟨0, by omega, rfl, by simp [go_sem], by simp, Own.nil, (by (repeat (first | exact Below.refl _ _ | refine Below.al ?_ _ | refine Below.drew ?_ | refine Below.sr ?_ _ | refine Below.sc ?_ _)))⟩
 case round =>
  obtain ⟨n, hn, rfl, hK, hz, hown, hbel⟩ := hrel
  by_cases hlt : n < 16
  ·
   have hcl := clampN_length k n
   obtain ⟨L, hL⟩ : ∃ L, clampN k n = L := ⟨_, rfl⟩
   have hLs := clampN_succ k n
   rw [hL] at hown hcl hLs
   have HS := Lib.hid hLs
   have HLn := Lib.hid hcl
   clear hLs hcl hL
   have h16 : n = 0 ∨ n = 1 ∨ n = 2 ∨ n = 3 ∨ n = 4 ∨ n = 5 ∨ n = 6 ∨ n = 7 ∨ n = 8 ∨ n = 9 ∨ n = 10 ∨ n = 11 ∨ n = 12 ∨ n = 13 ∨ n = 14 ∨ n = 15 := by omega
   rcases h16 with rfl | rfl | rfl | rfl | rfl | rfl | rfl | rfl | rfl | rfl | rfl | rfl | rfl | rfl | rfl | rfl
   ·
    have k1 : 0 < k.length := by omega
    obtain ⟨x, hx⟩ : ∃ x, k[0].toNat = x := ⟨_, rfl⟩
    have x1 : x < 256 := by rw [← hx]; exact k[0].toNat_lt
    obtain ⟨d, hd⟩ : ∃ d, x = d := ⟨_, rfl⟩
    have hc : clampD k 0 = x := by rw [clampD, if_neg (by decide), if_neg (by decide), getD_b _ _ k1, hx]
    subst hd
    have HC := Lib.hid hc
    clear hc
    go_wp2_with (at_builtin; refine wpList_append1 rfl rfl inferInstance (w.heap.size + 1) _ (n64s L) rfl hown _ rfl rfl (by have := HLn.out; simp; omega) (by omega) ?_)
    intro v' w2 o2 b2
    go_wp2_with fail
    go_roundw
    case rel => exact ⟨1, by omega, rfl, (row_below b2 (by omega)).trans hK, by have := b2.size; omega, by rw [HS.out, HC.out, n64s_append]; exact o2, hbel.trans (b2.mono (by omega))⟩
    case measure => simp [intOf]
   ·
    have k1 : 1 < k.length := by omega
    obtain ⟨x, hx⟩ : ∃ x, k[1].toNat = x := ⟨_, rfl⟩
    have x1 : x < 256 := by rw [← hx]; exact k[1].toNat_lt
    obtain ⟨d, hd⟩ : ∃ d, x = d := ⟨_, rfl⟩
    have hc : clampD k 1 = x := by rw [clampD, if_neg (by decide), if_neg (by decide), getD_b _ _ k1, hx]
    subst hd
    have HC := Lib.hid hc
    clear hc
    go_wp2_with (at_builtin; refine wpList_append1 rfl rfl inferInstance (w.heap.size + 1) _ (n64s L) rfl hown _ rfl rfl (by have := HLn.out; simp; omega) (by omega) ?_)
    intro v' w2 o2 b2
    go_wp2_with fail
    go_roundw
    case rel => exact ⟨2, by omega, rfl, (row_below b2 (by omega)).trans hK, by have := b2.size; omega, by rw [HS.out, HC.out, n64s_append]; exact o2, hbel.trans (b2.mono (by omega))⟩
    case measure => simp [intOf]
   ·
    have k1 : 2 < k.length := by omega
    obtain ⟨x, hx⟩ : ∃ x, k[2].toNat = x := ⟨_, rfl⟩
    have x1 : x < 256 := by rw [← hx]; exact k[2].toNat_lt
    obtain ⟨d, hd⟩ : ∃ d, x = d := ⟨_, rfl⟩
    have hc : clampD k 2 = x := by rw [clampD, if_neg (by decide), if_neg (by decide), getD_b _ _ k1, hx]
    subst hd
    have HC := Lib.hid hc
    clear hc
    go_wp2_with (at_builtin; refine wpList_append1 rfl rfl inferInstance (w.heap.size + 1) _ (n64s L) rfl hown _ rfl rfl (by have := HLn.out; simp; omega) (by omega) ?_)
    intro v' w2 o2 b2
    go_wp2_with fail
    go_roundw
    case rel => exact ⟨3, by omega, rfl, (row_below b2 (by omega)).trans hK, by have := b2.size; omega, by rw [HS.out, HC.out, n64s_append]; exact o2, hbel.trans (b2.mono (by omega))⟩
    case measure => simp [intOf]
   ·
    have k1 : 3 < k.length := by omega
    obtain ⟨x, hx⟩ : ∃ x, k[3].toNat = x := ⟨_, rfl⟩
    have x1 : x < 256 := by rw [← hx]; exact k[3].toNat_lt
    obtain ⟨d, hd⟩ : ∃ d, x % 16 = d := ⟨_, rfl⟩
    have m1 : (x : Int) % 16 = (d : Int) := by omega
    have m2 : (x : Int).tmod 16 = (d : Int) := by rw [Int.tmod_eq_emod_of_nonneg (by omega)]; exact m1
    have hc : clampD k 3 = d := by rw [clampD, if_pos (by decide), getD_b _ _ k1, hx, hd]
    clear hd
    have HC := Lib.hid hc
    clear hc
    go_wp2_with (at_builtin; refine wpList_append1 rfl rfl inferInstance (w.heap.size + 1) _ (n64s L) rfl hown _ rfl rfl (by have := HLn.out; simp; omega) (by omega) ?_)
    intro v' w2 o2 b2
    go_wp2_with fail
    go_roundw
    case rel => exact ⟨4, by omega, rfl, (row_below b2 (by omega)).trans hK, by have := b2.size; omega, by rw [HS.out, HC.out, n64s_append]; exact o2, hbel.trans (b2.mono (by omega))⟩
    case measure => simp [intOf]
   ·
    have k1 : 4 < k.length := by omega
    obtain ⟨x, hx⟩ : ∃ x, k[4].toNat = x := ⟨_, rfl⟩
    have x1 : x < 256 := by rw [← hx]; exact k[4].toNat_lt
    obtain ⟨q, hq⟩ : ∃ d, x / 4 = d := ⟨_, rfl⟩
    obtain ⟨d, hd⟩ : ∃ d, q * 4 = d := ⟨_, rfl⟩
    have m1 : (x : Int) / 4 = (q : Int) := by omega
    have m2 : (x : Int).tdiv 4 = (q : Int) := by rw [Int.tdiv_eq_ediv_of_nonneg (by omega)]; exact m1
    have m3 : IntKind.i64.wrap ((q : Int) * 4) = (d : Int) := wrapN _ _ (by omega) (by omega)
    have hc : clampD k 4 = d := by rw [clampD, if_neg (by decide), if_pos (by decide), getD_b _ _ k1, hx, hq, hd]
    clear hq
    clear hd
    have HC := Lib.hid hc
    clear hc
    go_wp2_with (at_builtin; refine wpList_append1 rfl rfl inferInstance (w.heap.size + 1) _ (n64s L) rfl hown _ rfl rfl (by have := HLn.out; simp; omega) (by omega) ?_)
    intro v' w2 o2 b2
    go_wp2_with fail
    go_roundw
    case rel => exact ⟨5, by omega, rfl, (row_below b2 (by omega)).trans hK, by have := b2.size; omega, by rw [HS.out, HC.out, n64s_append]; exact o2, hbel.trans (b2.mono (by omega))⟩
    case measure => simp [intOf]
   ·
    have k1 : 5 < k.length := by omega
    obtain ⟨x, hx⟩ : ∃ x, k[5].toNat = x := ⟨_, rfl⟩
    have x1 : x < 256 := by rw [← hx]; exact k[5].toNat_lt
    obtain ⟨d, hd⟩ : ∃ d, x = d := ⟨_, rfl⟩
    have hc : clampD k 5 = x := by rw [clampD, if_neg (by decide), if_neg (by decide), getD_b _ _ k1, hx]
    subst hd
    have HC := Lib.hid hc
    clear hc
    go_wp2_with (at_builtin; refine wpList_append1 rfl rfl inferInstance (w.heap.size + 1) _ (n64s L) rfl hown _ rfl rfl (by have := HLn.out; simp; omega) (by omega) ?_)
    intro v' w2 o2 b2
    go_wp2_with fail
    go_roundw
    case rel => exact ⟨6, by omega, rfl, (row_below b2 (by omega)).trans hK, by have := b2.size; omega, by rw [HS.out, HC.out, n64s_append]; exact o2, hbel.trans (b2.mono (by omega))⟩
    case measure => simp [intOf]
   ·
    have k1 : 6 < k.length := by omega
    obtain ⟨x, hx⟩ : ∃ x, k[6].toNat = x := ⟨_, rfl⟩
    have x1 : x < 256 := by rw [← hx]; exact k[6].toNat_lt
    obtain ⟨d, hd⟩ : ∃ d, x = d := ⟨_, rfl⟩
    have hc : clampD k 6 = x := by rw [clampD, if_neg (by decide), if_neg (by decide), getD_b _ _ k1, hx]
    subst hd
    have HC := Lib.hid hc
    clear hc
    go_wp2_with (at_builtin; refine wpList_append1 rfl rfl inferInstance (w.heap.size + 1) _ (n64s L) rfl hown _ rfl rfl (by have := HLn.out; simp; omega) (by omega) ?_)
    intro v' w2 o2 b2
    go_wp2_with fail
    go_roundw
    case rel => exact ⟨7, by omega, rfl, (row_below b2 (by omega)).trans hK, by have := b2.size; omega, by rw [HS.out, HC.out, n64s_append]; exact o2, hbel.trans (b2.mono (by omega))⟩
    case measure => simp [intOf]
   ·
    have k1 : 7 < k.length := by omega
    obtain ⟨x, hx⟩ : ∃ x, k[7].toNat = x := ⟨_, rfl⟩
    have x1 : x < 256 := by rw [← hx]; exact k[7].toNat_lt
    obtain ⟨d, hd⟩ : ∃ d, x % 16 = d := ⟨_, rfl⟩
    have m1 : (x : Int) % 16 = (d : Int) := by omega
    have m2 : (x : Int).tmod 16 = (d : Int) := by rw [Int.tmod_eq_emod_of_nonneg (by omega)]; exact m1
    have hc : clampD k 7 = d := by rw [clampD, if_pos (by decide), getD_b _ _ k1, hx, hd]
    clear hd
    have HC := Lib.hid hc
    clear hc
    go_wp2_with (at_builtin; refine wpList_append1 rfl rfl inferInstance (w.heap.size + 1) _ (n64s L) rfl hown _ rfl rfl (by have := HLn.out; simp; omega) (by omega) ?_)
    intro v' w2 o2 b2
    go_wp2_with fail
    go_roundw
    case rel => exact ⟨8, by omega, rfl, (row_below b2 (by omega)).trans hK, by have := b2.size; omega, by rw [HS.out, HC.out, n64s_append]; exact o2, hbel.trans (b2.mono (by omega))⟩
    case measure => simp [intOf]
   ·
    have k1 : 8 < k.length := by omega
    obtain ⟨x, hx⟩ : ∃ x, k[8].toNat = x := ⟨_, rfl⟩
    have x1 : x < 256 := by rw [← hx]; exact k[8].toNat_lt
    obtain ⟨q, hq⟩ : ∃ d, x / 4 = d := ⟨_, rfl⟩
    obtain ⟨d, hd⟩ : ∃ d, q * 4 = d := ⟨_, rfl⟩
    have m1 : (x : Int) / 4 = (q : Int) := by omega
    have m2 : (x : Int).tdiv 4 = (q : Int) := by rw [Int.tdiv_eq_ediv_of_nonneg (by omega)]; exact m1
    have m3 : IntKind.i64.wrap ((q : Int) * 4) = (d : Int) := wrapN _ _ (by omega) (by omega)
    have hc : clampD k 8 = d := by rw [clampD, if_neg (by decide), if_pos (by decide), getD_b _ _ k1, hx, hq, hd]
    clear hq
    clear hd
    have HC := Lib.hid hc
    clear hc
    go_wp2_with (at_builtin; refine wpList_append1 rfl rfl inferInstance (w.heap.size + 1) _ (n64s L) rfl hown _ rfl rfl (by have := HLn.out; simp; omega) (by omega) ?_)
    intro v' w2 o2 b2
    go_wp2_with fail
    go_roundw
    case rel => exact ⟨9, by omega, rfl, (row_below b2 (by omega)).trans hK, by have := b2.size; omega, by rw [HS.out, HC.out, n64s_append]; exact o2, hbel.trans (b2.mono (by omega))⟩
    case measure => simp [intOf]
   ·
    have k1 : 9 < k.length := by omega
    obtain ⟨x, hx⟩ : ∃ x, k[9].toNat = x := ⟨_, rfl⟩
    have x1 : x < 256 := by rw [← hx]; exact k[9].toNat_lt
    obtain ⟨d, hd⟩ : ∃ d, x = d := ⟨_, rfl⟩
    have hc : clampD k 9 = x := by rw [clampD, if_neg (by decide), if_neg (by decide), getD_b _ _ k1, hx]
    subst hd
    have HC := Lib.hid hc
    clear hc
    go_wp2_with (at_builtin; refine wpList_append1 rfl rfl inferInstance (w.heap.size + 1) _ (n64s L) rfl hown _ rfl rfl (by have := HLn.out; simp; omega) (by omega) ?_)
    intro v' w2 o2 b2
    go_wp2_with fail
    go_roundw
    case rel => exact ⟨10, by omega, rfl, (row_below b2 (by omega)).trans hK, by have := b2.size; omega, by rw [HS.out, HC.out, n64s_append]; exact o2, hbel.trans (b2.mono (by omega))⟩
    case measure => simp [intOf]
   ·
    have k1 : 10 < k.length := by omega
    obtain ⟨x, hx⟩ : ∃ x, k[10].toNat = x := ⟨_, rfl⟩
    have x1 : x < 256 := by rw [← hx]; exact k[10].toNat_lt
    obtain ⟨d, hd⟩ : ∃ d, x = d := ⟨_, rfl⟩
    have hc : clampD k 10 = x := by rw [clampD, if_neg (by decide), if_neg (by decide), getD_b _ _ k1, hx]
    subst hd
    have HC := Lib.hid hc
    clear hc
    go_wp2_with (at_builtin; refine wpList_append1 rfl rfl inferInstance (w.heap.size + 1) _ (n64s L) rfl hown _ rfl rfl (by have := HLn.out; simp; omega) (by omega) ?_)
    intro v' w2 o2 b2
    go_wp2_with fail
    go_roundw
    case rel => exact ⟨11, by omega, rfl, (row_below b2 (by omega)).trans hK, by have := b2.size; omega, by rw [HS.out, HC.out, n64s_append]; exact o2, hbel.trans (b2.mono (by omega))⟩
    case measure => simp [intOf]
   ·
    have k1 : 11 < k.length := by omega
    obtain ⟨x, hx⟩ : ∃ x, k[11].toNat = x := ⟨_, rfl⟩
    have x1 : x < 256 := by rw [← hx]; exact k[11].toNat_lt
    obtain ⟨d, hd⟩ : ∃ d, x % 16 = d := ⟨_, rfl⟩
    have m1 : (x : Int) % 16 = (d : Int) := by omega
    have m2 : (x : Int).tmod 16 = (d : Int) := by rw [Int.tmod_eq_emod_of_nonneg (by omega)]; exact m1
    have hc : clampD k 11 = d := by rw [clampD, if_pos (by decide), getD_b _ _ k1, hx, hd]
    clear hd
    have HC := Lib.hid hc
    clear hc
    go_wp2_with (at_builtin; refine wpList_append1 rfl rfl inferInstance (w.heap.size + 1) _ (n64s L) rfl hown _ rfl rfl (by have := HLn.out; simp; omega) (by omega) ?_)
    intro v' w2 o2 b2
    go_wp2_with fail
    go_roundw
    case rel => exact ⟨12, by omega, rfl, (row_below b2 (by omega)).trans hK, by have := b2.size; omega, by rw [HS.out, HC.out, n64s_append]; exact o2, hbel.trans (b2.mono (by omega))⟩
    case measure => simp [intOf]
   ·
    have k1 : 12 < k.length := by omega
    obtain ⟨x, hx⟩ : ∃ x, k[12].toNat = x := ⟨_, rfl⟩
    have x1 : x < 256 := by rw [← hx]; exact k[12].toNat_lt
    obtain ⟨q, hq⟩ : ∃ d, x / 4 = d := ⟨_, rfl⟩
    obtain ⟨d, hd⟩ : ∃ d, q * 4 = d := ⟨_, rfl⟩
    have m1 : (x : Int) / 4 = (q : Int) := by omega
    have m2 : (x : Int).tdiv 4 = (q : Int) := by rw [Int.tdiv_eq_ediv_of_nonneg (by omega)]; exact m1
    have m3 : IntKind.i64.wrap ((q : Int) * 4) = (d : Int) := wrapN _ _ (by omega) (by omega)
    have hc : clampD k 12 = d := by rw [clampD, if_neg (by decide), if_pos (by decide), getD_b _ _ k1, hx, hq, hd]
    clear hq
    clear hd
    have HC := Lib.hid hc
    clear hc
    go_wp2_with (at_builtin; refine wpList_append1 rfl rfl inferInstance (w.heap.size + 1) _ (n64s L) rfl hown _ rfl rfl (by have := HLn.out; simp; omega) (by omega) ?_)
    intro v' w2 o2 b2
    go_wp2_with fail
    go_roundw
    case rel => exact ⟨13, by omega, rfl, (row_below b2 (by omega)).trans hK, by have := b2.size; omega, by rw [HS.out, HC.out, n64s_append]; exact o2, hbel.trans (b2.mono (by omega))⟩
    case measure => simp [intOf]
   ·
    have k1 : 13 < k.length := by omega
    obtain ⟨x, hx⟩ : ∃ x, k[13].toNat = x := ⟨_, rfl⟩
    have x1 : x < 256 := by rw [← hx]; exact k[13].toNat_lt
    obtain ⟨d, hd⟩ : ∃ d, x = d := ⟨_, rfl⟩
    have hc : clampD k 13 = x := by rw [clampD, if_neg (by decide), if_neg (by decide), getD_b _ _ k1, hx]
    subst hd
    have HC := Lib.hid hc
    clear hc
    go_wp2_with (at_builtin; refine wpList_append1 rfl rfl inferInstance (w.heap.size + 1) _ (n64s L) rfl hown _ rfl rfl (by have := HLn.out; simp; omega) (by omega) ?_)
    intro v' w2 o2 b2
    go_wp2_with fail
    go_roundw
    case rel => exact ⟨14, by omega, rfl, (row_below b2 (by omega)).trans hK, by have := b2.size; omega, by rw [HS.out, HC.out, n64s_append]; exact o2, hbel.trans (b2.mono (by omega))⟩
    case measure => simp [intOf]
   ·
    have k1 : 14 < k.length := by omega
    obtain ⟨x, hx⟩ : ∃ x, k[14].toNat = x := ⟨_, rfl⟩
    have x1 : x < 256 := by rw [← hx]; exact k[14].toNat_lt
    obtain ⟨d, hd⟩ : ∃ d, x = d := ⟨_, rfl⟩
    have hc : clampD k 14 = x := by rw [clampD, if_neg (by decide), if_neg (by decide), getD_b _ _ k1, hx]
    subst hd
    have HC := Lib.hid hc
    clear hc
    go_wp2_with (at_builtin; refine wpList_append1 rfl rfl inferInstance (w.heap.size + 1) _ (n64s L) rfl hown _ rfl rfl (by have := HLn.out; simp; omega) (by omega) ?_)
    intro v' w2 o2 b2
    go_wp2_with fail
    go_roundw
    case rel => exact ⟨15, by omega, rfl, (row_below b2 (by omega)).trans hK, by have := b2.size; omega, by rw [HS.out, HC.out, n64s_append]; exact o2, hbel.trans (b2.mono (by omega))⟩
    case measure => simp [intOf]
   ·
    have k1 : 15 < k.length := by omega
    obtain ⟨x, hx⟩ : ∃ x, k[15].toNat = x := ⟨_, rfl⟩
    have x1 : x < 256 := by rw [← hx]; exact k[15].toNat_lt
    obtain ⟨d, hd⟩ : ∃ d, x % 16 = d := ⟨_, rfl⟩
    have m1 : (x : Int) % 16 = (d : Int) := by omega
    have m2 : (x : Int).tmod 16 = (d : Int) := by rw [Int.tmod_eq_emod_of_nonneg (by omega)]; exact m1
    have hc : clampD k 15 = d := by rw [clampD, if_pos (by decide), getD_b _ _ k1, hx, hd]
    clear hd
    have HC := Lib.hid hc
    clear hc
    go_wp2_with (at_builtin; refine wpList_append1 rfl rfl inferInstance (w.heap.size + 1) _ (n64s L) rfl hown _ rfl rfl (by have := HLn.out; simp; omega) (by omega) ?_)
    intro v' w2 o2 b2
    go_wp2_with fail
    go_roundw
    case rel => exact ⟨16, by omega, rfl, (row_below b2 (by omega)).trans hK, by have := b2.size; omega, by rw [HS.out, HC.out, n64s_append]; exact o2, hbel.trans (b2.mono (by omega))⟩
    case measure => simp [intOf]
  ·
   obtain rfl : n = 16 := by omega
   rw [show ((16 : Nat) : Int) = 16 from rfl]
   go_wp2_with fail
   go_ret
   exact ⟨_, rfl, hown.lower (by omega), hbel⟩
end
end Go.Proofs.YtakkicppgkmokaaGreat
