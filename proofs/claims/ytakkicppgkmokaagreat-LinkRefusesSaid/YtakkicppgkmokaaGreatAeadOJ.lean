/- Contracts of aead.Open. -/
import Derived.Test.YtakkicppgkmokaaGreatJ27
set_option linter.unusedSimpArgs false
set_option linter.unusedVariables false
namespace Go.Proofs.YtakkicppgkmokaaGreat
open Go.RowKit
theorem open_short (k nonce beside s : List UInt8) (w : World) (hk : k.length = 32) (hn : nonce.length = 12) (hb : beside.length ≤ 20000) (hs : s.length < 16) :
    Calls Tryz.prog 60 #[.agg (u8s k).toArray, .string ⟨nonce.toArray⟩, .string ⟨beside.toArray⟩, .string ⟨s.toArray⟩] w fun e w' => e = .returned (.tuple #[.string ⟨#[]⟩, .int .i64 2]) ∧ Below w.heap.size w w' := by
  have HT := Lib.hid (fun w => tag_any k nonce beside [] w hk hn hb (by simp))
  have h0 : ((s.length : Int) - 16) < 0 := by omega
  have h1 : (s.length : Int) < 16 := by omega
  have h2 : max ((s.length : Int) - 16) 0 = 0 := by omega
  go_enter Tryz.func60, Tryz.ntmps60
  go_wp2_with fail
  refine (HT.out _).mono ?_
  rintro e w1 ⟨rfl, b1⟩
  go_wp2_with fail
  go_ret2
  exact ⟨rfl, Below.trans (by (repeat (first | exact Below.refl _ _ | refine Below.alloc ?_ (by first | (simp; done) | (simp; omega) | omega) _ | refine Below.drew ?_ | refine Below.setRow ?_ (by first | (simp; done) | (simp; omega) | omega) _ | refine Below.setCell ?_ (by first | (simp; done) | (simp; omega) | omega) _))) (b1.mono (by simp))⟩
theorem open_nonce_short (k nonce beside s : List UInt8) (w : World) (hk : k.length = 32) (hn : nonce.length ≠ 12) (hs : s.length < 16) :
    Calls Tryz.prog 60 #[.agg (u8s k).toArray, .string ⟨nonce.toArray⟩, .string ⟨beside.toArray⟩, .string ⟨s.toArray⟩] w fun e w' => e = .returned (.tuple #[.string ⟨#[]⟩, .int .i64 1]) ∧ Below w.heap.size w w' := by
  have HT := Lib.hid (fun w => tag_no k nonce beside [] w hk hn)
  have h0 : ((s.length : Int) - 16) < 0 := by omega
  have h1 : (s.length : Int) < 16 := by omega
  have h2 : max ((s.length : Int) - 16) 0 = 0 := by omega
  go_enter Tryz.func60, Tryz.ntmps60
  go_wp2_with fail
  refine (HT.out _).mono ?_
  rintro e w1 ⟨rfl, b1⟩
  go_wp2_with fail
  go_ret2
  exact ⟨rfl, Below.trans (by (repeat (first | exact Below.refl _ _ | refine Below.alloc ?_ (by first | (simp; done) | (simp; omega) | omega) _ | refine Below.drew ?_ | refine Below.setRow ?_ (by first | (simp; done) | (simp; omega) | omega) _ | refine Below.setCell ?_ (by first | (simp; done) | (simp; omega) | omega) _))) (b1.mono (by simp))⟩
theorem open_nonce_long (k nonce beside m x : List UInt8) (w : World) (hk : k.length = 32) (hn : nonce.length ≠ 12) (hm : m.length ≤ 20000) (hx : x.length = 16) :
    Calls Tryz.prog 60 #[.agg (u8s k).toArray, .string ⟨nonce.toArray⟩, .string ⟨beside.toArray⟩, .string ⟨(m ++ x).toArray⟩] w fun e w' => e = .returned (.tuple #[.string ⟨#[]⟩, .int .i64 1]) ∧ Below w.heap.size w w' := by
  have HT := Lib.hid (fun w => tag_no k nonce beside m w hk hn)
  obtain ⟨s, es⟩ : ∃ s, m ++ x = s := ⟨_, rfl⟩
  have hsl : s.length = m.length + 16 := by rw [← es, List.length_append, hx]
  have h0 : ((m.length + 16 : Nat) : Int) - 16 = m.length := by omega
  have h2 : max (m.length : Int) 0 = m.length := by omega
  have h3 : List.take m.length s = m := by rw [← es]; simp
  have h6 : 0 ≤ (m.length : Int) := by omega
  have h7 : (m.length : Int) ≤ 20000 := by omega
  have h8 : (m.length : Int) + 16 - 16 = m.length := by omega
  rw [es]
  clear es
  go_enter Tryz.func60, Tryz.ntmps60
  go_wp2_with fail
  refine (HT.out _).mono ?_
  rintro e w1 ⟨rfl, b1⟩
  go_wp2_with fail
  go_ret2
  exact ⟨rfl, Below.trans (by (repeat (first | exact Below.refl _ _ | refine Below.alloc ?_ (by first | (simp; done) | (simp; omega) | omega) _ | refine Below.drew ?_ | refine Below.setRow ?_ (by first | (simp; done) | (simp; omega) | omega) _ | refine Below.setCell ?_ (by first | (simp; done) | (simp; omega) | omega) _))) (b1.mono (by simp))⟩
theorem open_no (k nonce beside m x : List UInt8) (w : World) (hk : k.length = 32) (hn : nonce.length = 12) (hb : beside.length ≤ 20000) (hm : m.length ≤ 20000) (hx : x.length = 16) (hne : tagL k nonce beside m ≠ x) :
    Calls Tryz.prog 60 #[.agg (u8s k).toArray, .string ⟨nonce.toArray⟩, .string ⟨beside.toArray⟩, .string ⟨(m ++ x).toArray⟩] w fun e w' => e = .returned (.tuple #[.string ⟨#[]⟩, .int .i64 5]) ∧ Below w.heap.size w w' := by
  have HT := Lib.hid (fun w => tag_any k nonce beside m w hk hn hb hm)
  have hq : (tagL k nonce beside m == x) = false := by simpa using hne
  have HQ := Lib.hid (fun w => same_any (tagL k nonce beside m) x w (by rw [tagL_length]; omega))
  rw [hq] at HQ
  obtain ⟨t, et⟩ : ∃ t, tagL k nonce beside m = t := ⟨_, rfl⟩
  have htl : t.length = 16 := by rw [← et]; exact tagL_length _ _ _ _
  rw [et] at HT HQ
  clear et hq hne
  obtain ⟨s, es⟩ : ∃ s, m ++ x = s := ⟨_, rfl⟩
  have hsl : s.length = m.length + 16 := by rw [← es, List.length_append, hx]
  have h0 : ((m.length + 16 : Nat) : Int) - 16 = m.length := by omega
  have h2 : max (m.length : Int) 0 = m.length := by omega
  have h3 : List.take m.length s = m := by rw [← es]; simp
  have h4 : List.drop m.length s = x := by rw [← es]; simp
  have h5 : ¬ (((m.length + 16 : Nat) : Int) < 16) := by omega
  have h6 : 0 ≤ (m.length : Int) := by omega
  have h7 : (m.length : Int) ≤ 20000 := by omega
  have h8 : (m.length : Int) + 16 - 16 = m.length := by omega
  have h9 : ¬ ((m.length : Int) + 16 < 16) := by omega
  rw [es]
  clear es
  go_enter Tryz.func60, Tryz.ntmps60
  go_wp2_with fail
  refine (HT.out _).mono ?_
  rintro e w1 ⟨rfl, b1⟩
  go_wp2_with fail
  refine (HQ.out _).mono ?_
  rintro e w2 ⟨rfl, b2⟩
  go_wp2_with fail
  go_ret2
  exact ⟨rfl, Below.trans (by (repeat (first | exact Below.refl _ _ | refine Below.alloc ?_ (by first | (simp; done) | (simp; omega) | omega) _ | refine Below.drew ?_ | refine Below.setRow ?_ (by first | (simp; done) | (simp; omega) | omega) _ | refine Below.setCell ?_ (by first | (simp; done) | (simp; omega) | omega) _))) (Below.trans (b1.mono (by simp)) (b2.mono (by have := b1.size; simp at this; omega)))⟩
theorem open_yes (k nonce beside m x : List UInt8) (w : World) (hk : k.length = 32) (hn : nonce.length = 12) (hb : beside.length ≤ 20000) (hm : m.length ≤ 20000) (hx : x.length = 16) (he : tagL k nonce beside m = x) :
    Calls Tryz.prog 60 #[.agg (u8s k).toArray, .string ⟨nonce.toArray⟩, .string ⟨beside.toArray⟩, .string ⟨(m ++ x).toArray⟩] w fun e w' => e = .returned (.tuple #[.string ⟨(maskL k 1 nonce m).toArray⟩, .int .i64 0]) ∧ Below w.heap.size w w' := by
  have HT := Lib.hid (fun w => tag_any k nonce beside m w hk hn hb hm)
  have HM := Lib.hid (fun w => mask_any k 1 nonce m w hk hn (by omega))
  have hq : (tagL k nonce beside m == x) = true := by simpa using he
  have HQ := Lib.hid (fun w => same_any (tagL k nonce beside m) x w (by rw [tagL_length]; omega))
  rw [hq] at HQ
  obtain ⟨t, et⟩ : ∃ t, tagL k nonce beside m = t := ⟨_, rfl⟩
  have htl : t.length = 16 := by rw [← et]; exact tagL_length _ _ _ _
  rw [et] at HT HQ
  clear et hq he
  obtain ⟨M, eM⟩ : ∃ M, maskL k 1 nonce m = M := ⟨_, rfl⟩
  rw [eM] at HM ⊢
  clear eM
  obtain ⟨s, es⟩ : ∃ s, m ++ x = s := ⟨_, rfl⟩
  have hsl : s.length = m.length + 16 := by rw [← es, List.length_append, hx]
  have h0 : ((m.length + 16 : Nat) : Int) - 16 = m.length := by omega
  have h2 : max (m.length : Int) 0 = m.length := by omega
  have h3 : List.take m.length s = m := by rw [← es]; simp
  have h4 : List.drop m.length s = x := by rw [← es]; simp
  have h5 : ¬ (((m.length + 16 : Nat) : Int) < 16) := by omega
  have h6 : 0 ≤ (m.length : Int) := by omega
  have h7 : (m.length : Int) ≤ 20000 := by omega
  have h8 : (m.length : Int) + 16 - 16 = m.length := by omega
  have h9 : ¬ ((m.length : Int) + 16 < 16) := by omega
  rw [es]
  clear es
  go_enter Tryz.func60, Tryz.ntmps60
  go_wp2_with fail
  refine (HT.out _).mono ?_
  rintro e w1 ⟨rfl, b1⟩
  have r1 : row w1 w.heap.size = (u8s k).toArray := by rw [row_below b1 (by simp)]; simp [go_sem]
  have z1 := b1.size
  simp at z1
  go_wp2_with fail
  refine (HQ.out _).mono ?_
  rintro e w2 ⟨rfl, b2⟩
  have r2 : row w2 w.heap.size = (u8s k).toArray := by rw [row_below b2 (by omega)]; exact r1
  go_wp2_with fail
  refine (HM.out _).mono ?_
  rintro e w3 ⟨rfl, b3⟩
  go_wp2_with fail
  go_ret2
  exact ⟨rfl, Below.trans (by (repeat (first | exact Below.refl _ _ | refine Below.alloc ?_ (by first | (simp; done) | (simp; omega) | omega) _ | refine Below.drew ?_ | refine Below.setRow ?_ (by first | (simp; done) | (simp; omega) | omega) _ | refine Below.setCell ?_ (by first | (simp; done) | (simp; omega) | omega) _))) (Below.trans (b1.mono (by simp)) (Below.trans (b2.mono (by omega)) (b3.mono (by have := b2.size; omega))))⟩
end Go.Proofs.YtakkicppgkmokaaGreat
