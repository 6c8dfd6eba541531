/- Contracts of aead.Seal and aead.Open. -/
import Derived.Test.YtjeclimoknilcaaAeadT
set_option linter.unusedSimpArgs false
set_option linter.unusedVariables false
namespace Go.Proofs.Ytjeclimoknilcaa
open Go.RowKit
theorem maskL_length (k : List UInt8) (count : Int) (nonce l : List UInt8) : (maskL k count nonce l).length = l.length := mkL_length ..
theorem maskL_back (k : List UInt8) (count : Int) (nonce l : List UInt8) : maskL k count nonce (maskL k count nonce l) = l := by
  apply List.ext_getElem (by rw [maskL_length, maskL_length])
  intro i h1 h2
  have e : ∀ (l : List UInt8) (h : i < (maskL k count nonce l).length), (maskL k count nonce l)[i] = l.getD i 0 ^^^ ksB k count nonce i := by
    intro l h
    have : i < l.length := by simpa [maskL_length] using h
    simp [maskL, mkL, this]
  have h3 : i < (maskL k count nonce l).length := by rw [maskL_length]; exact h2
  rw [e, List.getD_eq_getElem?_getD, List.getElem?_eq_getElem h3, Option.getD_some, e, List.getD_eq_getElem?_getD, List.getElem?_eq_getElem h2, Option.getD_some]
  rw [UInt8.xor_assoc, UInt8.xor_self, UInt8.xor_zero]
def sealL (k nonce beside s : List UInt8) : List UInt8 := maskL k 1 nonce s ++ tagL k nonce beside (maskL k 1 nonce s)
theorem seal_no (k nonce beside s : List UInt8) (w : World) (hk : k.length = 32) (hn : nonce.length ≠ 12) :
    Calls Try.prog 12 #[.agg (u8s k).toArray, .string ⟨nonce.toArray⟩, .string ⟨beside.toArray⟩, .string ⟨s.toArray⟩] w fun e w' => e = .returned (.tuple #[.string ⟨#[]⟩, .int .i64 1]) ∧ Below w.heap.size w w' := by
  have HS := Lib.hid (fun w => mask_no k 1 nonce s w hn)
  go_enter Try.func12, Try.ntmps12
  go_wp2_with fail
  (with_reducible refine (HS.out _).mono ?_)
  rintro e w1 ⟨rfl, b1⟩
  go_wp2_with fail
  go_ret2
  exact ⟨rfl, Below.trans (by (repeat (first | exact Below.refl _ _ | refine Below.alloc ?_ (by first | (simp; done) | (simp; omega) | omega) _ | refine Below.drew ?_ | refine Below.setRow ?_ (by first | (simp; done) | (simp; omega) | omega) _ | refine Below.setCell ?_ (by first | (simp; done) | (simp; omega) | omega) _))) (b1.mono (by simp))⟩
theorem seal_any (k nonce beside s : List UInt8) (w : World) (hk : k.length = 32) (hn : nonce.length = 12) (hb : beside.length ≤ 20000) (hs : s.length ≤ 20000) :
    Calls Try.prog 12 #[.agg (u8s k).toArray, .string ⟨nonce.toArray⟩, .string ⟨beside.toArray⟩, .string ⟨s.toArray⟩] w fun e w' => e = .returned (.tuple #[.string ⟨(sealL k nonce beside s).toArray⟩, .int .i64 0]) ∧ Below w.heap.size w w' := by
  have hml : (maskL k 1 nonce s).length ≤ 20000 := by rw [maskL_length]; exact hs
  have HS := Lib.hid (fun w => mask_any k 1 nonce s w hk hn (by omega))
  have HT := Lib.hid (fun w => tag_any k nonce beside (maskL k 1 nonce s) w hk hn hb hml)
  obtain ⟨m, em⟩ : ∃ m, maskL k 1 nonce s = m := ⟨_, rfl⟩
  obtain ⟨t, et⟩ : ∃ t, tagL k nonce beside (maskL k 1 nonce s) = t := ⟨_, rfl⟩
  have e : sealL k nonce beside s = m ++ t := by rw [sealL, et, em]
  rw [e]
  rw [et] at HT
  have htl : t.length = 16 := by rw [← et]; exact tagL_length _ _ _ _
  rw [em] at HS HT hml
  have hml2 : (m.length : Int) ≤ 20000 := by omega
  have hsum : m.length + t.length ≤ 20016 := by omega
  clear e et em
  go_enter Try.func12, Try.ntmps12
  go_wp2_with fail
  (with_reducible refine (HS.out _).mono ?_)
  rintro e w1 ⟨rfl, b1⟩
  have r1 : row w1 w.heap.size = (u8s k).toArray := by rw [row_below b1 (by simp)]; simp [go_sem]
  go_wp2_with fail
  (with_reducible refine (HT.out _).mono ?_)
  rintro e w2 ⟨rfl, b2⟩
  go_wp2_with fail
  go_ret2
  exact ⟨rfl, Below.trans (by (repeat (first | exact Below.refl _ _ | refine Below.alloc ?_ (by first | (simp; done) | (simp; omega) | omega) _ | refine Below.drew ?_ | refine Below.setRow ?_ (by first | (simp; done) | (simp; omega) | omega) _ | refine Below.setCell ?_ (by first | (simp; done) | (simp; omega) | omega) _))) (Below.trans (b1.mono (by simp)) (b2.mono (by have := b1.size; simp at this; omega)))⟩
end Go.Proofs.Ytjeclimoknilcaa
