/- The walk of the law AeadOnly. -/
import Derived.Test.YtjeclimoknilcaaAeadW
set_option linter.unusedSimpArgs false
set_option linter.unusedVariables false
namespace Go.Proofs.Ytjeclimoknilcaa
open Go.ChangeShapes Go.WideShapes Go.ChangeAt Go.RowKit
set_option maxRecDepth 20000 in
theorem aeadOnly_long1 (k nonce beside c : List UInt8) (w : World) (g1 : (400 : Int) < beside.length) :
    Calls Try.prog 7 #[.agg (u8s k).toArray, .string ⟨nonce.toArray⟩, .string ⟨beside.toArray⟩, .string ⟨c.toArray⟩] w fun e w' => e = .returned (.bool true) ∧ Below w.heap.size w w' := by
  go_enter Try.func7, Try.ntmps7
  go_wp2_with fail
  (with_reducible refine (awake05_any _).mono ?_)
  rintro e w1 ⟨rfl, b1⟩
  go_wp2_with fail
  (with_reducible refine (awake05_any _).mono ?_)
  rintro e w2 ⟨rfl, b2⟩
  go_wp2_with fail
  go_ret
  exact ⟨rfl, Below.trans (by (repeat (first | exact Below.refl _ _ | refine Below.alloc ?_ (by first | (simp; done) | (simp; omega) | omega) _ | refine Below.drew ?_ | refine Below.setRow ?_ (by first | (simp; done) | (simp; omega) | omega) _ | refine Below.setCell ?_ (by first | (simp; done) | (simp; omega) | omega) _))) (Below.trans (b1.mono (by simp)) (b2.mono (by have := b1.size; simp at this; omega)))⟩
set_option maxRecDepth 20000 in
theorem aeadOnly_long2 (k nonce beside c : List UInt8) (w : World) (g1 : ¬ (400 : Int) < beside.length) (g2 : (400 : Int) < c.length) :
    Calls Try.prog 7 #[.agg (u8s k).toArray, .string ⟨nonce.toArray⟩, .string ⟨beside.toArray⟩, .string ⟨c.toArray⟩] w fun e w' => e = .returned (.bool true) ∧ Below w.heap.size w w' := by
  go_enter Try.func7, Try.ntmps7
  go_wp2_with fail
  (with_reducible refine (awake05_any _).mono ?_)
  rintro e w1 ⟨rfl, b1⟩
  go_wp2_with fail
  (with_reducible refine (awake05_any _).mono ?_)
  rintro e w2 ⟨rfl, b2⟩
  go_wp2_with fail
  go_ret
  exact ⟨rfl, Below.trans (by (repeat (first | exact Below.refl _ _ | refine Below.alloc ?_ (by first | (simp; done) | (simp; omega) | omega) _ | refine Below.drew ?_ | refine Below.setRow ?_ (by first | (simp; done) | (simp; omega) | omega) _ | refine Below.setCell ?_ (by first | (simp; done) | (simp; omega) | omega) _))) (Below.trans (b1.mono (by simp)) (b2.mono (by have := b1.size; simp at this; omega)))⟩
/-- what Open and Seal answer at all worlds -/
def opens (k nonce beside c : List UInt8) (t : List UInt8) (e : Int) : Prop := ∀ w, Calls Try.prog 17 #[.agg (u8s k).toArray, .string ⟨nonce.toArray⟩, .string ⟨beside.toArray⟩, .string ⟨c.toArray⟩] w fun r w' => r = .returned (.tuple #[.string ⟨t.toArray⟩, .int .i64 e]) ∧ Below w.heap.size w w'
def seals (k nonce beside c : List UInt8) (t : List UInt8) (e : Int) : Prop := ∀ w, Calls Try.prog 12 #[.agg (u8s k).toArray, .string ⟨nonce.toArray⟩, .string ⟨beside.toArray⟩, .string ⟨c.toArray⟩] w fun r w' => r = .returned (.tuple #[.string ⟨t.toArray⟩, .int .i64 e]) ∧ Below w.heap.size w w'
set_option maxRecDepth 20000 in
set_option maxHeartbeats 1000000 in
theorem aeadOnly_nonce (k nonce beside c : List UInt8) (w : World) (hk : k.length = 32) (g1 : ¬ (400 : Int) < beside.length) (g2 : ¬ (400 : Int) < c.length) (hn : nonce.length ≠ 12)
    (hO : opens k nonce beside c [] 1) (hS : seals k nonce beside [] [] 1) :
    Calls Try.prog 7 #[.agg (u8s k).toArray, .string ⟨nonce.toArray⟩, .string ⟨beside.toArray⟩, .string ⟨c.toArray⟩] w fun e w' => e = .returned (.bool true) ∧ Below w.heap.size w w' := by
  have hne : ((nonce.length : Int) != 12) = true := by simp; omega
  go_enter Try.func7, Try.ntmps7
  go_wp2_with fail
  (with_reducible refine (awake05_any _).mono ?_)
  rintro e w1 ⟨rfl, b1⟩
  have z1 := b1.size
  simp at z1
  have r1 : row w1 w.heap.size = (u8s k).toArray := by rw [row_below b1 (by simp)]; simp [go_sem]
  have B1 : Below w.heap.size w w1 := Below.trans (by (repeat (first | exact Below.refl _ _ | refine Below.alloc ?_ (by first | (simp; done) | (simp; omega) | omega) _ | refine Below.drew ?_ | refine Below.setRow ?_ (by first | (simp; done) | (simp; omega) | omega) _ | refine Below.setCell ?_ (by first | (simp; done) | (simp; omega) | omega) _))) (b1.mono (by simp))
  clear b1
  go_wp2_with fail
  refine (hO _).mono ?_
  rintro e w2 ⟨rfl, b2⟩
  have z2 := b2.size
  have r2 : row w2 w.heap.size = (u8s k).toArray := by rw [row_below b2 (by omega)]; exact r1
  go_wp2_with fail
  refine (hS _).mono ?_
  rintro e w3 ⟨rfl, b3⟩
  go_wp2_with fail
  go_ret
  exact ⟨rfl, B1.trans (Below.trans (b2.mono (by omega)) (b3.mono (by omega)))⟩
set_option maxRecDepth 20000 in
set_option maxHeartbeats 1000000 in
theorem aeadOnly_short (k nonce beside c S : List UInt8) (w : World) (hk : k.length = 32) (g1 : ¬ (400 : Int) < beside.length) (g2 : (c.length : Int) < 16) (hn : nonce.length = 12)
    (hO : opens k nonce beside c [] 2) (hS : seals k nonce beside [] S 0) :
    Calls Try.prog 7 #[.agg (u8s k).toArray, .string ⟨nonce.toArray⟩, .string ⟨beside.toArray⟩, .string ⟨c.toArray⟩] w fun e w' => e = .returned (.bool true) ∧ Below w.heap.size w w' := by
  have g3 : ¬ (400 : Int) < c.length := by omega
  go_enter Try.func7, Try.ntmps7
  go_wp2_with fail
  (with_reducible refine (awake05_any _).mono ?_)
  rintro e w1 ⟨rfl, b1⟩
  have z1 := b1.size
  simp at z1
  have r1 : row w1 w.heap.size = (u8s k).toArray := by rw [row_below b1 (by simp)]; simp [go_sem]
  have B1 : Below w.heap.size w w1 := Below.trans (by (repeat (first | exact Below.refl _ _ | refine Below.alloc ?_ (by first | (simp; done) | (simp; omega) | omega) _ | refine Below.drew ?_ | refine Below.setRow ?_ (by first | (simp; done) | (simp; omega) | omega) _ | refine Below.setCell ?_ (by first | (simp; done) | (simp; omega) | omega) _))) (b1.mono (by simp))
  clear b1
  go_wp2_with fail
  refine (hO _).mono ?_
  rintro e w2 ⟨rfl, b2⟩
  have z2 := b2.size
  have r2 : row w2 w.heap.size = (u8s k).toArray := by rw [row_below b2 (by omega)]; exact r1
  go_wp2_with fail
  refine (hS _).mono ?_
  rintro e w3 ⟨rfl, b3⟩
  go_wp2_with fail
  go_ret
  exact ⟨rfl, B1.trans (Below.trans (b2.mono (by omega)) (b3.mono (by omega)))⟩
set_option maxRecDepth 20000 in
set_option maxHeartbeats 1000000 in
theorem aeadOnly_no (k nonce beside c S : List UInt8) (w : World) (hk : k.length = 32) (g1 : ¬ (400 : Int) < beside.length) (g2 : ¬ (400 : Int) < c.length) (g3 : (16 : Int) ≤ c.length) (hn : nonce.length = 12)
    (hO : opens k nonce beside c [] 5) (hS : seals k nonce beside [] S 0) :
    Calls Try.prog 7 #[.agg (u8s k).toArray, .string ⟨nonce.toArray⟩, .string ⟨beside.toArray⟩, .string ⟨c.toArray⟩] w fun e w' => e = .returned (.bool true) ∧ Below w.heap.size w w' := by
  have g4 : ¬ (c.length : Int) < 16 := by omega
  go_enter Try.func7, Try.ntmps7
  go_wp2_with fail
  (with_reducible refine (awake05_any _).mono ?_)
  rintro e w1 ⟨rfl, b1⟩
  have z1 := b1.size
  simp at z1
  have r1 : row w1 w.heap.size = (u8s k).toArray := by rw [row_below b1 (by simp)]; simp [go_sem]
  have B1 : Below w.heap.size w w1 := Below.trans (by (repeat (first | exact Below.refl _ _ | refine Below.alloc ?_ (by first | (simp; done) | (simp; omega) | omega) _ | refine Below.drew ?_ | refine Below.setRow ?_ (by first | (simp; done) | (simp; omega) | omega) _ | refine Below.setCell ?_ (by first | (simp; done) | (simp; omega) | omega) _))) (b1.mono (by simp))
  clear b1
  go_wp2_with fail
  refine (hO _).mono ?_
  rintro e w2 ⟨rfl, b2⟩
  have z2 := b2.size
  have r2 : row w2 w.heap.size = (u8s k).toArray := by rw [row_below b2 (by omega)]; exact r1
  go_wp2_with fail
  refine (hS _).mono ?_
  rintro e w3 ⟨rfl, b3⟩
  go_wp2_with fail
  go_ret
  exact ⟨rfl, B1.trans (Below.trans (b2.mono (by omega)) (b3.mono (by omega)))⟩
set_option maxRecDepth 20000 in
set_option maxHeartbeats 1000000 in
theorem aeadOnly_yes (k nonce beside c t : List UInt8) (w : World) (hk : k.length = 32) (g1 : ¬ (400 : Int) < beside.length) (g2 : ¬ (400 : Int) < c.length) (hn : nonce.length = 12)
    (hO : opens k nonce beside c t 0) (hS : seals k nonce beside t c 0) :
    Calls Try.prog 7 #[.agg (u8s k).toArray, .string ⟨nonce.toArray⟩, .string ⟨beside.toArray⟩, .string ⟨c.toArray⟩] w fun e w' => e = .returned (.bool true) ∧ Below w.heap.size w w' := by
  go_enter Try.func7, Try.ntmps7
  go_wp2_with fail
  (with_reducible refine (awake05_any _).mono ?_)
  rintro e w1 ⟨rfl, b1⟩
  have z1 := b1.size
  simp at z1
  have r1 : row w1 w.heap.size = (u8s k).toArray := by rw [row_below b1 (by simp)]; simp [go_sem]
  have B1 : Below w.heap.size w w1 := Below.trans (by (repeat (first | exact Below.refl _ _ | refine Below.alloc ?_ (by first | (simp; done) | (simp; omega) | omega) _ | refine Below.drew ?_ | refine Below.setRow ?_ (by first | (simp; done) | (simp; omega) | omega) _ | refine Below.setCell ?_ (by first | (simp; done) | (simp; omega) | omega) _))) (b1.mono (by simp))
  clear b1
  go_wp2_with fail
  refine (hO _).mono ?_
  rintro e w2 ⟨rfl, b2⟩
  have z2 := b2.size
  have r2 : row w2 w.heap.size = (u8s k).toArray := by rw [row_below b2 (by omega)]; exact r1
  go_wp2_with fail
  refine (hS _).mono ?_
  rintro e w3 ⟨rfl, b3⟩
  go_wp2_with fail
  go_ret
  exact ⟨rfl, B1.trans (Below.trans (b2.mono (by omega)) (b3.mono (by omega)))⟩
theorem aeadOnly_all (k nonce beside c : List UInt8) (w : World) (hk : k.length = 32) :
    Calls Try.prog 7 #[.agg (u8s k).toArray, .string ⟨nonce.toArray⟩, .string ⟨beside.toArray⟩, .string ⟨c.toArray⟩] w fun e w' => e = .returned (.bool true) ∧ Below w.heap.size w w' := by
  by_cases h1 : (400 : Int) < beside.length
  · exact aeadOnly_long1 k nonce beside c w h1
  by_cases h2 : (400 : Int) < c.length
  · exact aeadOnly_long2 k nonce beside c w h1 h2
  by_cases h3 : c.length < 16
  · by_cases hn : nonce.length = 12
    · exact aeadOnly_short k nonce beside c (sealL k nonce beside []) w hk h1 (by omega) hn (fun w => open_short k nonce beside c w hk hn (by omega) h3) (fun w => seal_any k nonce beside [] w hk hn (by omega) (by simp))
    · exact aeadOnly_nonce k nonce beside c w hk h1 h2 hn (fun w => open_nonce_short k nonce beside c w hk hn h3) (fun w => seal_no k nonce beside [] w hk hn)
  · obtain ⟨m, hm⟩ : ∃ m, m = c.take (c.length - 16) := ⟨_, rfl⟩
    obtain ⟨x, hx⟩ : ∃ x, x = c.drop (c.length - 16) := ⟨_, rfl⟩
    have hc : c = m ++ x := by rw [hm, hx, List.take_append_drop]
    have hxl : x.length = 16 := by rw [hx, List.length_drop]; omega
    have hml : m.length ≤ 400 := by rw [hm, List.length_take]; omega
    clear hm hx
    by_cases hn : nonce.length = 12
    · by_cases ht : tagL k nonce beside m = x
      · refine aeadOnly_yes k nonce beside c (maskL k 1 nonce m) w hk h1 h2 hn (fun w => ?_) (fun w => ?_)
        · rw [hc]
          exact open_yes k nonce beside m x w hk hn (by omega) (by omega) hxl ht
        · have := seal_any k nonce beside (maskL k 1 nonce m) w hk hn (by omega) (by rw [maskL_length]; omega)
          rw [sealL, maskL_back, ht, ← hc] at this
          exact this
      · refine aeadOnly_no k nonce beside c (sealL k nonce beside []) w hk h1 h2 (by omega) hn (fun w => ?_) (fun w => seal_any k nonce beside [] w hk hn (by omega) (by simp))
        rw [hc]
        exact open_no k nonce beside m x w hk hn (by omega) (by omega) hxl ht
    · refine aeadOnly_nonce k nonce beside c w hk h1 h2 hn (fun w => ?_) (fun w => seal_no k nonce beside [] w hk hn)
      rw [hc]
      exact open_nonce_long k nonce beside m x w hk hn (by omega) hxl
theorem aeadOnly_walk (W : World) (base : Nat) (args : Array Value) (hlen : args.size = Try.f7.params.size) (hval : ∀ (j : Nat) t v, Try.f7.params[j]? = some t → args[j]? = some v → Value.okWide Try.prog W .any base t v) :
    Calls Try.prog 7 args W fun e W' => e = .returned (.bool true) ∧ Below W.heap.size W W' := by
  obtain ⟨l⟩ := args
  match l, hlen with
  | [v0, v1, v2, v3], _ =>
  obtain ⟨k, rfl, hk⟩ := open_key (hval 0 23 v0 rfl rfl)
  obtain ⟨n, rfl, hn⟩ := open_str Try.underlying9 (hval 1 9 v1 rfl rfl)
  obtain ⟨b, rfl, hb⟩ := open_str Try.underlying9 (hval 2 9 v2 rfl rfl)
  obtain ⟨s, rfl, hs⟩ := open_str Try.underlying9 (hval 3 9 v3 rfl rfl)
  exact aeadOnly_all k n b s W hk
end Go.Proofs.Ytjeclimoknilcaa
