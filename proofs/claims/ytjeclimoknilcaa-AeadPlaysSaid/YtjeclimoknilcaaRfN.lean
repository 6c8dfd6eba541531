/- Contracts of the reference of chapter 4: two numbers of bytes added. -/
import Derived.Test.YtjeclimoknilcaaVal
import Derived.Test.YtjeclimoknilcaaOwnI
import Derived.Test.YtjeclimoknilcaaCmp
import Derived.Lib.Hide
set_option linter.unusedSimpArgs false
set_option linter.unusedVariables false
namespace Go.Proofs.Ytjeclimoknilcaa
open Go.RowKit
set_option maxRecDepth 20000 in
set_option maxHeartbeats 2000000 in
theorem plusR_any (a b : List Nat) (ga ca gb cb : Nat) (sa sb : List Value) (w : World) (hra : row w ga = (i64s a ++ sa).toArray) (hrb : row w gb = (i64s b ++ sb).toArray)
    (za : ga < w.heap.size) (zb : gb < w.heap.size) (a0 : a ≠ []) (da : Dig a) (db : Dig b) (la : a.length ≤ 1000) (lb : b.length ≤ 1000) :
    Calls Try.prog 42 #[.slice (some ⟨ga, 0, none⟩) a.length ca, .slice (some ⟨gb, 0, none⟩) b.length cb] w fun e w' => ∃ v l, e = .returned v ∧ Own w' w.heap.size 3 v (i64s l) ∧ l ≠ [] ∧ Dig l ∧ valN l = valN a + valN b ∧ (l.length ≤ a.length + 1 ∨ l.length ≤ b.length + 1) ∧ b.length ≤ l.length ∧ Below w.heap.size w w' := by
  obtain ⟨M, hM1, hM2, hM3⟩ : ∃ M, a.length ≤ M ∧ b.length ≤ M ∧ (M ≤ a.length ∨ M ≤ b.length) := by
    rcases Nat.le_total a.length b.length with h | h
    · exact ⟨b.length, h, Nat.le_refl _, .inr (Nat.le_refl _)⟩
    · exact ⟨a.length, Nat.le_refl _, h, .inl (Nat.le_refl _)⟩
  have a1 : 0 < a.length := List.length_pos_iff.2 a0
  go_enter Try.func42, Try.ntmps42
  go_wp2_with fail
  go_loopw [5, 6, 7] (fun v c i wr => ∃ (n k : Nat) (l : List Nat), i = .int .i64 n ∧ c = .int .i64 k ∧ k ≤ 1 ∧ (n ≤ M ∨ n = M + 1 ∧ k = 0) ∧ l.length = n ∧ Dig l ∧ valN l + 256 ^ n * k = valN (a.take n) + valN (b.take n) ∧ Own wr w.heap.size 3 v (i64s l) ∧ Below w.heap.size w wr) (fun _ _ i _ => M + 2 - (intOf i).toNat)
  case atStart => exact ⟨0, 0, [], rfl, rfl, by omega, .inl (by omega), rfl, Dig.nil, by simp [valN], Own.nil, Below.refl _ _⟩
  case round =>
    obtain ⟨n, k, l, rfl, rfl, hk, hnM, hll, hd, hval, hown, hbel⟩ := hrel
    have hsz := hbel.size
    have ra := (row_below hbel za).trans hra
    have rb := (row_below hbel zb).trans hrb
    have za2 : ga < wr.heap.size := by omega
    have zb2 : gb < wr.heap.size := by omega
    have hnI : (n : Int) ≤ 3000 := by omega
    have HV := Lib.hid hval
    have HD := Lib.hid hd
    have HL := Lib.hid hll
    have HM := Lib.hid hnM
    clear hval hd hll hnM hra hrb
    by_cases ha0 : n < a.length
    · have ja : (n : Int) < a.length := by omega
      by_cases hb0 : n < b.length
      · have jb : (n : Int) < b.length := by omega
        obtain ⟨x, hx⟩ : ∃ v, a[n] = v := ⟨_, rfl⟩
        have vx : x < 256 := by rw [← hx]; exact da.get n ha0
        have ux : n < a.length + sa.length := by omega
        have tx : (i64s a ++ sa)[n]'(by simp; omega) = .int .i64 (x : Int) := by rw [List.getElem_append_left (by simpa using ha0), i64s_get, hx]
        have Gx := Lib.hid (show a.getD n 0 = x by rw [getD_at _ _ ha0]; exact hx)
        obtain ⟨y, hy⟩ : ∃ v, b[n] = v := ⟨_, rfl⟩
        have vy : y < 256 := by rw [← hy]; exact db.get n hb0
        have uy : n < b.length + sb.length := by omega
        have ty : (i64s b ++ sb)[n]'(by simp; omega) = .int .i64 (y : Int) := by rw [List.getElem_append_left (by simpa using hb0), i64s_get, hy]
        have Gy := Lib.hid (show b.getD n 0 = y by rw [getD_at _ _ hb0]; exact hy)
        obtain ⟨q1, hq1⟩ : ∃ v, k + x = v := ⟨_, rfl⟩
        obtain ⟨q2, hq2⟩ : ∃ v, q1 + y = v := ⟨_, rfl⟩
        have f1 : IntKind.i64.wrap ((k : Int) + (x : Int)) = (q1 : Int) := wrapN _ _ (by omega) (by omega)
        have f2 : IntKind.i64.wrap ((q1 : Int) + (y : Int)) = (q2 : Int) := wrapN _ _ (by omega) (by omega)
        obtain ⟨d, hd⟩ : ∃ v, q2 % 256 = v := ⟨_, rfl⟩
        obtain ⟨k2, hk2⟩ : ∃ v, q2 / 256 = v := ⟨_, rfl⟩
        obtain ⟨m1, m2⟩ := modt _ _ hd
        obtain ⟨m3, m4⟩ := divt _ _ hk2
        have hqq : k + x + y = q2 := by omega
        have hs := carry_snoc l n k x y _ _ HL.out HV.out
        rw [hqq, hd, hk2, ← Gx.out, ← Gy.out, ← valN_take_succ, ← valN_take_succ] at hs
        have hk3 : k2 ≤ 1 := by omega
        have hd3 : d < 256 := by omega
        have hM4 : n + 1 ≤ M ∨ n + 1 = M + 1 ∧ k2 = 0 := by have := HM.out; omega
        have HS := Lib.hid hs
        have HM4 := Lib.hid hM4
        clear hs hM4 hqq hd hk2 hq1 hq2 Gx Gy
        go_wp2_with (at_builtin; refine wpList_append1 rfl rfl inferInstance w.heap.size _ (i64s l) rfl hown _ rfl rfl (by have := HL.out; have := HM.out; simp; omega) hsz ?_)
        intro v' w2 o2 b2
        go_wp2_with fail
        go_roundw
        case rel =>
          refine ⟨n + 1, k2, l ++ [d], rfl, rfl, hk3, HM4.out, by have := HL.out; simp; omega, HD.out.snoc hd3, HS.out, by rw [i64s_append]; exact o2, hbel.trans b2⟩
        case measure => have := HM.out; simp [intOf]; omega
      · have jb : ¬ (n : Int) < b.length := by omega
        obtain ⟨x, hx⟩ : ∃ v, a[n] = v := ⟨_, rfl⟩
        have vx : x < 256 := by rw [← hx]; exact da.get n ha0
        have ux : n < a.length + sa.length := by omega
        have tx : (i64s a ++ sa)[n]'(by simp; omega) = .int .i64 (x : Int) := by rw [List.getElem_append_left (by simpa using ha0), i64s_get, hx]
        have Gx := Lib.hid (show a.getD n 0 = x by rw [getD_at _ _ ha0]; exact hx)
        obtain ⟨y, hy⟩ : ∃ v, (0 : Nat) = v := ⟨_, rfl⟩
        have vy : y < 256 := by omega
        have Gy := Lib.hid (show b.getD n 0 = y by rw [getD_past _ _ (by omega)]; exact hy)
        obtain ⟨q1, hq1⟩ : ∃ v, k + x = v := ⟨_, rfl⟩
        obtain ⟨q2, hq2⟩ : ∃ v, q1 + y = v := ⟨_, rfl⟩
        have f1 : IntKind.i64.wrap ((k : Int) + (x : Int)) = (q1 : Int) := wrapN _ _ (by omega) (by omega)
        obtain rfl : q1 = q2 := by omega
        obtain ⟨d, hd⟩ : ∃ v, q1 % 256 = v := ⟨_, rfl⟩
        obtain ⟨k2, hk2⟩ : ∃ v, q1 / 256 = v := ⟨_, rfl⟩
        obtain ⟨m1, m2⟩ := modt _ _ hd
        obtain ⟨m3, m4⟩ := divt _ _ hk2
        have hqq : k + x + y = q1 := by omega
        have hs := carry_snoc l n k x y _ _ HL.out HV.out
        rw [hqq, hd, hk2, ← Gx.out, ← Gy.out, ← valN_take_succ, ← valN_take_succ] at hs
        have hk3 : k2 ≤ 1 := by omega
        have hd3 : d < 256 := by omega
        have hM4 : n + 1 ≤ M ∨ n + 1 = M + 1 ∧ k2 = 0 := by have := HM.out; omega
        have HS := Lib.hid hs
        have HM4 := Lib.hid hM4
        clear hs hM4 hqq hd hk2 hq1 hq2 Gx Gy hy
        go_wp2_with (at_builtin; refine wpList_append1 rfl rfl inferInstance w.heap.size _ (i64s l) rfl hown _ rfl rfl (by have := HL.out; have := HM.out; simp; omega) hsz ?_)
        intro v' w2 o2 b2
        go_wp2_with fail
        go_roundw
        case rel =>
          refine ⟨n + 1, k2, l ++ [d], rfl, rfl, hk3, HM4.out, by have := HL.out; simp; omega, HD.out.snoc hd3, HS.out, by rw [i64s_append]; exact o2, hbel.trans b2⟩
        case measure => have := HM.out; simp [intOf]; omega
    · have ja : ¬ (n : Int) < a.length := by omega
      by_cases hb0 : n < b.length
      · have jb : (n : Int) < b.length := by omega
        obtain ⟨x, hx⟩ : ∃ v, (0 : Nat) = v := ⟨_, rfl⟩
        have vx : x < 256 := by omega
        have Gx := Lib.hid (show a.getD n 0 = x by rw [getD_past _ _ (by omega)]; exact hx)
        obtain ⟨y, hy⟩ : ∃ v, b[n] = v := ⟨_, rfl⟩
        have vy : y < 256 := by rw [← hy]; exact db.get n hb0
        have uy : n < b.length + sb.length := by omega
        have ty : (i64s b ++ sb)[n]'(by simp; omega) = .int .i64 (y : Int) := by rw [List.getElem_append_left (by simpa using hb0), i64s_get, hy]
        have Gy := Lib.hid (show b.getD n 0 = y by rw [getD_at _ _ hb0]; exact hy)
        obtain ⟨q1, hq1⟩ : ∃ v, k + x = v := ⟨_, rfl⟩
        obtain ⟨q2, hq2⟩ : ∃ v, q1 + y = v := ⟨_, rfl⟩
        obtain rfl : k = q1 := by omega
        have f2 : IntKind.i64.wrap ((k : Int) + (y : Int)) = (q2 : Int) := wrapN _ _ (by omega) (by omega)
        obtain ⟨d, hd⟩ : ∃ v, q2 % 256 = v := ⟨_, rfl⟩
        obtain ⟨k2, hk2⟩ : ∃ v, q2 / 256 = v := ⟨_, rfl⟩
        obtain ⟨m1, m2⟩ := modt _ _ hd
        obtain ⟨m3, m4⟩ := divt _ _ hk2
        have hqq : k + x + y = q2 := by omega
        have hs := carry_snoc l n k x y _ _ HL.out HV.out
        rw [hqq, hd, hk2, ← Gx.out, ← Gy.out, ← valN_take_succ, ← valN_take_succ] at hs
        have hk3 : k2 ≤ 1 := by omega
        have hd3 : d < 256 := by omega
        have hM4 : n + 1 ≤ M ∨ n + 1 = M + 1 ∧ k2 = 0 := by have := HM.out; omega
        have HS := Lib.hid hs
        have HM4 := Lib.hid hM4
        clear hs hM4 hqq hd hk2 hq1 hq2 Gx Gy hx
        go_wp2_with (at_builtin; refine wpList_append1 rfl rfl inferInstance w.heap.size _ (i64s l) rfl hown _ rfl rfl (by have := HL.out; have := HM.out; simp; omega) hsz ?_)
        intro v' w2 o2 b2
        go_wp2_with fail
        go_roundw
        case rel =>
          refine ⟨n + 1, k2, l ++ [d], rfl, rfl, hk3, HM4.out, by have := HL.out; simp; omega, HD.out.snoc hd3, HS.out, by rw [i64s_append]; exact o2, hbel.trans b2⟩
        case measure => have := HM.out; simp [intOf]; omega
      · have jb : ¬ (n : Int) < b.length := by omega
        by_cases gk : 0 < k
        · have jk : (0 : Int) < (k : Int) := by omega
          obtain ⟨x, hx⟩ : ∃ v, (0 : Nat) = v := ⟨_, rfl⟩
          have vx : x < 256 := by omega
          have Gx := Lib.hid (show a.getD n 0 = x by rw [getD_past _ _ (by omega)]; exact hx)
          obtain ⟨y, hy⟩ : ∃ v, (0 : Nat) = v := ⟨_, rfl⟩
          have vy : y < 256 := by omega
          have Gy := Lib.hid (show b.getD n 0 = y by rw [getD_past _ _ (by omega)]; exact hy)
          obtain ⟨q1, hq1⟩ : ∃ v, k + x = v := ⟨_, rfl⟩
          obtain ⟨q2, hq2⟩ : ∃ v, q1 + y = v := ⟨_, rfl⟩
          obtain rfl : k = q1 := by omega
          obtain rfl : k = q2 := by omega
          obtain ⟨d, hd⟩ : ∃ v, k % 256 = v := ⟨_, rfl⟩
          obtain ⟨k2, hk2⟩ : ∃ v, k / 256 = v := ⟨_, rfl⟩
          obtain ⟨m1, m2⟩ := modt _ _ hd
          obtain ⟨m3, m4⟩ := divt _ _ hk2
          have hqq : k + x + y = k := by omega
          have hs := carry_snoc l n k x y _ _ HL.out HV.out
          rw [hqq, hd, hk2, ← Gx.out, ← Gy.out, ← valN_take_succ, ← valN_take_succ] at hs
          have hk3 : k2 ≤ 1 := by omega
          have hd3 : d < 256 := by omega
          have hM4 : n + 1 ≤ M ∨ n + 1 = M + 1 ∧ k2 = 0 := by have := HM.out; omega
          have HS := Lib.hid hs
          have HM4 := Lib.hid hM4
          clear hs hM4 hqq hd hk2 hq1 hq2 Gx Gy hx hy
          go_wp2_with (at_builtin; refine wpList_append1 rfl rfl inferInstance w.heap.size _ (i64s l) rfl hown _ rfl rfl (by have := HL.out; have := HM.out; simp; omega) hsz ?_)
          intro v' w2 o2 b2
          go_wp2_with fail
          go_roundw
          case rel =>
            refine ⟨n + 1, k2, l ++ [d], rfl, rfl, hk3, HM4.out, by have := HL.out; simp; omega, HD.out.snoc hd3, HS.out, by rw [i64s_append]; exact o2, hbel.trans b2⟩
          case measure => have := HM.out; simp [intOf]; omega
        · have k0 : ¬ (0 : Int) < (k : Int) := by omega
          obtain rfl : k = 0 := by omega
          go_wp2_with fail
          go_ret
          refine ⟨_, rfl, l, hown, ?_, HD.out, ?_, ?_, by have := HL.out; omega, hbel⟩
          · intro h0
            have := HL.out
            rw [h0] at this
            simp at this
            omega
          · have := HV.out
            rw [List.take_of_length_le (by omega), List.take_of_length_le (by omega)] at this
            simpa using this
          · have := HL.out
            have := HM.out
            omega
end Go.Proofs.Ytjeclimoknilcaa
