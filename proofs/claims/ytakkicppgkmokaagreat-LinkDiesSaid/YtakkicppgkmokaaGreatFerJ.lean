/- Fermat's law for 2^255 - 19: whoever's order is p - 1 makes all numbers below p; certificates of primes. No program in sight. -/
import Derived.Test.YtakkicppgkmokaaGreatPlainJ
set_option linter.unusedSimpArgs false
set_option linter.unusedVariables false
namespace Go.Proofs.YtakkicppgkmokaaGreat
theorem nodup_len (n : Nat) : ∀ (l : List Nat), l.Nodup → (∀ x ∈ l, x < n) → l.length ≤ n := by
 induction n with
 | zero =>
  intro l _ h
  cases l with
  | nil => simp
  | cons x l => exact absurd (h x (by simp)) (by omega)
 | succ n ih =>
  intro l hn h
  by_cases hm : n ∈ l
  ·
   have h1 := ih (l.erase n) (hn.erase n) (fun x hx => by
    have h2 := (hn.mem_erase_iff).1 hx
    have := h x h2.2
    have := h2.1
    omega)
   rw [List.length_erase_of_mem hm] at h1
   omega
  ·
   have := ih l hn (fun x hx => by
    have := h x hx
    have : x ≠ n := fun e => hm (e ▸ hx)
    omega)
   omega
def Pri (n : Nat) : Prop := 1 < n ∧ ∀ d, d ∣ n → d = 1 ∨ d = n
theorem pri_small (n : Nat) (h : (decide (1 < n) && (List.range n).all fun d => decide (d < 2) || n % d != 0) = true) : Pri n := by
 simp only [Bool.and_eq_true, decide_eq_true_eq, List.all_eq_true, List.mem_range, Bool.or_eq_true, bne_iff_ne] at h
 refine ⟨h.1, fun d hd => ?_⟩
 have hle := Nat.le_of_dvd (by omega) hd
 have h0 : d ≠ 0 := fun e => by subst e; have := Nat.zero_dvd.1 hd; omega
 by_cases hdn : d = n
 ·
  exact .inr hdn
 ·
  rcases h.2 d (by omega) with h1 | h1
  ·
   exact .inl (by omega)
  ·
   exact absurd (Nat.mod_eq_zero_of_dvd hd) h1
theorem prime_dvd (m : Nat) : 1 < m → ∃ q, Pri q ∧ q ∣ m := by
 induction m using Nat.strongRecOn with
 | _ m ih =>
  intro h
  by_cases hp : ∀ d, d ∣ m → d = 1 ∨ d = m
  ·
   exact ⟨m, ⟨h, hp⟩, Nat.dvd_refl _⟩
  ·
   have : ∃ d, d ∣ m ∧ d ≠ 1 ∧ d ≠ m := by
    apply Classical.byContradiction
    intro hc
    apply hp
    intro d hd
    apply Classical.byContradiction
    intro hc2
    exact hc ⟨d, hd, fun e => hc2 (.inl e), fun e => hc2 (.inr e)⟩
   obtain ⟨d, hd, h1, h2⟩ := this
   have hle := Nat.le_of_dvd (by omega) hd
   have h0 : d ≠ 0 := fun e => by subst e; have := Nat.zero_dvd.1 hd; omega
   obtain ⟨q, hq, hqd⟩ := ih d (by omega) (by omega)
   exact ⟨q, hq, Nat.dvd_trans hqd hd⟩
theorem pri_mul {q a b : Nat} (hq : Pri q) (h : q ∣ a * b) : q ∣ a ∨ q ∣ b := by
 rcases hq.2 (Nat.gcd q a) (Nat.gcd_dvd_left _ _) with h1 | h1
 ·
  exact .inr (Nat.Coprime.dvd_of_dvd_mul_left h1 h)
 ·
  exact .inl (by rw [← h1]; exact Nat.gcd_dvd_right _ _)
def prodN : List Nat → Nat
 | [] => 1
 | x :: l => x * prodN l
theorem pri_prod {q : Nat} (hq : Pri q) : ∀ (l : List Nat), (∀ x ∈ l, Pri x) → q ∣ prodN l → q ∈ l
 | [], _, h => by have := Nat.le_of_dvd (by decide) h; have := hq.1; simp [prodN] at *; omega
 | x :: l, hl, h => by
  rcases pri_mul hq h with h1 | h1
  ·
   rcases (hl x (by simp)).2 q h1 with h2 | h2
   ·
    have := hq.1; omega
   ·
    simp [h2]
  ·
   exact List.mem_cons_of_mem _ (pri_prod hq l (fun y hy => hl y (by simp [hy])) h1)
def pm (n : Nat) : Nat → Nat → Nat → Nat
 | 0, _, _ => 1 % n
 | f + 1, g, e => if e % 2 = 1 then g * pm n f (g * g % n) (e / 2) % n else pm n f (g * g % n) (e / 2)
theorem pm_spec (n : Nat) : ∀ (f g e : Nat), e < 2 ^ f → pm n f g e = g ^ e % n
 | 0, g, e, h => by
  have : e = 0 := by simpa using h
  subst this
  simp [pm]
 | f + 1, g, e, h => by
  have h1 : e / 2 < 2 ^ f := by rw [Nat.pow_succ] at h; omega
  have h2 := pm_spec n f (g * g % n) (e / 2) h1
  have h3 : (g * g % n) ^ (e / 2) % n = (g ^ (2 * (e / 2))) % n := by
   rw [← Nat.pow_mod, Nat.pow_mul, Nat.pow_two]
  have h4 := Nat.div_add_mod e 2
  unfold pm
  rw [h2, h3]
  by_cases ho : e % 2 = 1
  ·
   rw [if_pos ho, Nat.mul_mod_mod, Nat.mul_comm, ← Nat.pow_succ, Nat.succ_eq_add_one, show 2 * (e / 2) + 1 = e by omega]
  ·
   rw [if_neg ho, show 2 * (e / 2) = e by omega]
theorem one_mul_e {n g : Nat} (hn : 1 < n) {k : Nat} (m : Nat) (h : g ^ k % n = 1) : g ^ (k * m) % n = 1 := by
 rw [Nat.pow_mul, Nat.pow_mod, h, Nat.one_pow, Nat.mod_eq_of_lt hn]
theorem one_add_e {n g : Nat} {a b : Nat} (h : g ^ a % n = 1) (h2 : g ^ (a + b) % n = 1) : g ^ b % n = 1 := by
 rw [Nat.pow_add, Nat.mul_mod, h, Nat.one_mul, Nat.mod_mod] at h2
 exact h2
theorem one_gcd_e {n g : Nat} (hn : 1 < n) : ∀ (a b : Nat), g ^ a % n = 1 → g ^ b % n = 1 → g ^ (Nat.gcd a b) % n = 1 := by
 intro a b
 induction a, b using Nat.gcd.induction with
 | H0 b => intro _ h; rw [Nat.gcd_zero_left]; exact h
 | H1 a b h0 ih =>
  intro ha hb
  rw [Nat.gcd_rec]
  refine ih ?_ ha
  have h1 := one_mul_e hn (b / a) ha
  refine one_add_e h1 ?_
  rw [Nat.div_add_mod]
  exact hb
theorem lucas (n g : Nat) (fs : List Nat) (hn : 1 < n) (hp : prodN fs = n - 1) (hf : ∀ q ∈ fs, Pri q) (hg : g ^ (n - 1) % n = 1)
  (hq : ∀ q ∈ fs, g ^ ((n - 1) / q) % n ≠ 1) : Pri n ∧ ∀ a, a % n ≠ 0 → a ^ (n - 1) % n = 1 := by
 have hord : ∀ d, 0 < d → d < n - 1 → g ^ d % n ≠ 1 := by
  intro d h0 h1 h
  have hk := one_gcd_e hn d (n - 1) h hg
  have hkd : Nat.gcd d (n - 1) ∣ n - 1 := Nat.gcd_dvd_right _ _
  have hkle : Nat.gcd d (n - 1) ≤ d := Nat.le_of_dvd h0 (Nat.gcd_dvd_left _ _)
  obtain ⟨k, hkk⟩ : ∃ k, Nat.gcd d (n - 1) = k := ⟨_, rfl⟩
  rw [hkk] at hk hkd hkle
  obtain ⟨m, hm⟩ := hkd
  have hm1 : 1 < m := by
   rcases Nat.lt_or_ge 1 m with h2 | h2
   ·
    exact h2
   ·
    have : k * m ≤ k * 1 := Nat.mul_le_mul_left k h2
    omega
  obtain ⟨q, hqp, hqm⟩ := prime_dvd m hm1
  have hqf : q ∈ fs := pri_prod hqp fs hf (by rw [hp, hm]; exact Nat.dvd_trans hqm (Nat.dvd_mul_left m k))
  obtain ⟨r, hr⟩ := hqm
  refine hq q hqf ?_
  have : (n - 1) / q = k * r := by
   rw [hm, hr]
   have : k * (q * r) = q * (k * r) := by rw [← Nat.mul_assoc, Nat.mul_comm k q, Nat.mul_assoc]
   rw [this, Nat.mul_div_cancel_left _ (by have := hqp.1; omega)]
  rw [this]
  exact one_mul_e hn r hk
 have hne : ∀ i, i ≤ n - 1 → g ^ i % n ≠ 0 := by
  intro i hi h
  have : g ^ (n - 1) % n = 0 := by
   rw [show n - 1 = i + (n - 1 - i) by omega, Nat.pow_add, Nat.mul_mod, h, Nat.zero_mul, Nat.zero_mod]
  omega
 have hinj : ∀ i j, i < j → j < n - 1 → g ^ i % n ≠ g ^ j % n := by
  intro i j hij hj h
  refine hord (j - i) (by omega) (by omega) ?_
  refine one_add_e hg ?_
  rw [show n - 1 + (j - i) = j + (n - 1 - i) by omega, Nat.pow_add, Nat.mul_mod, ← h, ← Nat.mul_mod, ← Nat.pow_add, show i + (n - 1 - i) = n - 1 by omega]
  exact hg
 have hall : ∀ a, 0 < a → a < n → ∃ i, a = g ^ i % n := by
  intro a h0 h1
  apply Classical.byContradiction
  intro hc
  have hlen := nodup_len (n - 1) ((a - 1) :: (List.range (n - 1)).map fun i => g ^ i % n - 1) (by
   rw [List.nodup_cons]
   constructor
   ·
    intro hm
    obtain ⟨i, hi, he⟩ := List.mem_map.1 hm
    have hi := List.mem_range.1 hi
    have := hne i (by omega)
    exact hc ⟨i, by omega⟩
   ·
    rw [List.Nodup, List.pairwise_map]
    refine List.Pairwise.imp_of_mem ?_ (List.pairwise_lt_range)
    intro i j hi hj hij h
    have hi := List.mem_range.1 hi
    have hj := List.mem_range.1 hj
    have h1 := hne i (by omega)
    have h2 := hne j (by omega)
    exact hinj i j hij (by omega) (by omega)) (by
   intro x hx
   rcases List.mem_cons.1 hx with rfl | hx
   ·
    omega
   ·
    obtain ⟨i, hi, he⟩ := List.mem_map.1 hx
    have h2 := hne i (by have := List.mem_range.1 hi; omega)
    have h3 := Nat.mod_lt (g ^ i) (show 0 < n by omega)
    omega)
  simp at hlen
  omega
 have hfer : ∀ a, a % n ≠ 0 → a ^ (n - 1) % n = 1 := by
  intro a ha
  obtain ⟨i, hi⟩ := hall (a % n) (by omega) (Nat.mod_lt _ (by omega))
  rw [Nat.pow_mod, hi, ← Nat.pow_mod, ← Nat.pow_mul, Nat.mul_comm, Nat.pow_mul, Nat.pow_mod, hg, Nat.one_pow, Nat.mod_eq_of_lt hn]
 refine ⟨⟨hn, fun d hd => ?_⟩, hfer⟩
 apply Classical.byContradiction
 intro hc
 have hle := Nat.le_of_dvd (by omega) hd
 have h0 : d ≠ 0 := fun e => by subst e; have := Nat.zero_dvd.1 hd; omega
 have h1 : d ≠ 1 := fun e => hc (.inl e)
 have h2 : d ≠ n := fun e => hc (.inr e)
 have h3 := hfer d (by rw [Nat.mod_eq_of_lt (by omega)]; exact h0)
 have h4 : d ∣ d ^ (n - 1) := by
  rw [show n - 1 = (n - 2) + 1 by omega, Nat.pow_succ]
  exact Nat.dvd_mul_left _ _
 have h5 : d ∣ d ^ (n - 1) % n := (Nat.dvd_mod_iff hd).2 h4
 rw [h3] at h5
 have := Nat.dvd_one.1 h5
 omega
def certB (n g : Nat) (fs : List Nat) : Bool := decide (1 < n) && decide (n < 2 ^ 256) && prodN fs == n - 1 && pm n 256 g (n - 1) == 1 && fs.all fun q => pm n 256 g ((n - 1) / q) != 1
theorem cert (n g : Nat) (fs : List Nat) (h : certB n g fs = true) (hf : ∀ q ∈ fs, Pri q) : Pri n ∧ ∀ a, a % n ≠ 0 → a ^ (n - 1) % n = 1 := by
 simp only [certB, Bool.and_eq_true, decide_eq_true_eq, beq_iff_eq, List.all_eq_true, bne_iff_ne] at h
 obtain ⟨⟨⟨⟨h1, h2⟩, h3⟩, h4⟩, h5⟩ := h
 refine lucas n g fs h1 h3 hf ?_ fun q hq => ?_
 ·
  rw [← pm_spec n 256 g (n - 1) (by omega)]; exact h4
 ·
  have := Nat.div_le_self (n - 1) q
  rw [← pm_spec n 256 g ((n - 1) / q) (by omega)]
  exact h5 q hq
theorem pri_2 : Pri 2 := pri_small _ (by decide +kernel)
theorem pri_3 : Pri 3 := pri_small _ (by decide +kernel)
theorem pri_5 : Pri 5 := pri_small _ (by decide +kernel)
theorem pri_7 : Pri 7 := pri_small _ (by decide +kernel)
theorem pri_13 : Pri 13 := pri_small _ (by decide +kernel)
theorem pri_17 : Pri 17 := pri_small _ (by decide +kernel)
theorem pri_19 : Pri 19 := pri_small _ (by decide +kernel)
theorem pri_23 : Pri 23 := pri_small _ (by decide +kernel)
theorem pri_29 : Pri 29 := pri_small _ (by decide +kernel)
theorem pri_31 : Pri 31 := pri_small _ (by decide +kernel)
theorem pri_41 : Pri 41 := pri_small _ (by decide +kernel)
theorem pri_43 : Pri 43 := pri_small _ (by decide +kernel)
theorem pri_47 : Pri 47 := pri_small _ (by decide +kernel)
theorem pri_59 : Pri 59 := pri_small _ (by decide +kernel)
theorem pri_83 : Pri 83 := pri_small _ (by decide +kernel)
theorem pri_97 : Pri 97 := pri_small _ (by decide +kernel)
theorem pri_103 : Pri 103 := pri_small _ (by decide +kernel)
theorem pri_107 : Pri 107 := pri_small _ (by decide +kernel)
theorem pri_127 : Pri 127 := pri_small _ (by decide +kernel)
theorem pri_131 : Pri 131 := pri_small _ (by decide +kernel)
theorem pri_173 : Pri 173 := pri_small _ (by decide +kernel)
theorem pri_223 : Pri 223 := pri_small _ (by decide +kernel)
theorem pri_353 : Pri 353 := pri_small _ (by decide +kernel)
theorem pri_419 : Pri 419 := pri_small _ (by decide +kernel)
theorem pri_479 : Pri 479 := pri_small _ (by decide +kernel)
theorem pri_487 : Pri 487 := pri_small _ (by decide +kernel)
theorem pri_991 : Pri 991 := pri_small _ (by decide +kernel)
theorem cert_1723 : Pri 1723 ∧ ∀ a, a % 1723 ≠ 0 → a ^ (1723 - 1) % 1723 = 1 := cert _ 3 [2, 3, 7, 41] (by decide +kernel) (by
 intro q hq
 simp only [List.mem_cons, List.not_mem_nil, or_false] at hq
 rcases hq with rfl | rfl | rfl | rfl <;> first | exact pri_2 | exact pri_3 | exact pri_7 | exact pri_41)
theorem pri_1723 : Pri 1723 := cert_1723.1
theorem cert_2437 : Pri 2437 ∧ ∀ a, a % 2437 ≠ 0 → a ^ (2437 - 1) % 2437 = 1 := cert _ 2 [2, 2, 3, 7, 29] (by decide +kernel) (by
 intro q hq
 simp only [List.mem_cons, List.not_mem_nil, or_false] at hq
 rcases hq with rfl | rfl | rfl | rfl | rfl <;> first | exact pri_2 | exact pri_3 | exact pri_7 | exact pri_29)
theorem pri_2437 : Pri 2437 := cert_2437.1
theorem cert_3727 : Pri 3727 ∧ ∀ a, a % 3727 ≠ 0 → a ^ (3727 - 1) % 3727 = 1 := cert _ 3 [2, 3, 3, 3, 3, 23] (by decide +kernel) (by
 intro q hq
 simp only [List.mem_cons, List.not_mem_nil, or_false] at hq
 rcases hq with rfl | rfl | rfl | rfl | rfl | rfl <;> first | exact pri_2 | exact pri_3 | exact pri_23)
theorem pri_3727 : Pri 3727 := cert_3727.1
theorem cert_4153 : Pri 4153 ∧ ∀ a, a % 4153 ≠ 0 → a ^ (4153 - 1) % 4153 = 1 := cert _ 5 [2, 2, 2, 3, 173] (by decide +kernel) (by
 intro q hq
 simp only [List.mem_cons, List.not_mem_nil, or_false] at hq
 rcases hq with rfl | rfl | rfl | rfl | rfl <;> first | exact pri_2 | exact pri_3 | exact pri_173)
theorem pri_4153 : Pri 4153 := cert_4153.1
theorem cert_9463 : Pri 9463 ∧ ∀ a, a % 9463 ≠ 0 → a ^ (9463 - 1) % 9463 = 1 := cert _ 3 [2, 3, 19, 83] (by decide +kernel) (by
 intro q hq
 simp only [List.mem_cons, List.not_mem_nil, or_false] at hq
 rcases hq with rfl | rfl | rfl | rfl <;> first | exact pri_2 | exact pri_3 | exact pri_19 | exact pri_83)
theorem pri_9463 : Pri 9463 := cert_9463.1
theorem cert_32573 : Pri 32573 ∧ ∀ a, a % 32573 ≠ 0 → a ^ (32573 - 1) % 32573 = 1 := cert _ 2 [2, 2, 17, 479] (by decide +kernel) (by
 intro q hq
 simp only [List.mem_cons, List.not_mem_nil, or_false] at hq
 rcases hq with rfl | rfl | rfl | rfl <;> first | exact pri_2 | exact pri_17 | exact pri_479)
theorem pri_32573 : Pri 32573 := cert_32573.1
theorem cert_37853 : Pri 37853 ∧ ∀ a, a % 37853 ≠ 0 → a ^ (37853 - 1) % 37853 = 1 := cert _ 2 [2, 2, 9463] (by decide +kernel) (by
 intro q hq
 simp only [List.mem_cons, List.not_mem_nil, or_false] at hq
 rcases hq with rfl | rfl | rfl <;> first | exact pri_2 | exact pri_9463)
theorem pri_37853 : Pri 37853 := cert_37853.1
theorem cert_57467 : Pri 57467 ∧ ∀ a, a % 57467 ≠ 0 → a ^ (57467 - 1) % 57467 = 1 := cert _ 2 [2, 59, 487] (by decide +kernel) (by
 intro q hq
 simp only [List.mem_cons, List.not_mem_nil, or_false] at hq
 rcases hq with rfl | rfl | rfl <;> first | exact pri_2 | exact pri_59 | exact pri_487)
theorem pri_57467 : Pri 57467 := cert_57467.1
theorem cert_65147 : Pri 65147 ∧ ∀ a, a % 65147 ≠ 0 → a ^ (65147 - 1) % 65147 = 1 := cert _ 2 [2, 32573] (by decide +kernel) (by
 intro q hq
 simp only [List.mem_cons, List.not_mem_nil, or_false] at hq
 rcases hq with rfl | rfl <;> first | exact pri_2 | exact pri_32573)
theorem pri_65147 : Pri 65147 := cert_65147.1
theorem cert_75707 : Pri 75707 ∧ ∀ a, a % 75707 ≠ 0 → a ^ (75707 - 1) % 75707 = 1 := cert _ 2 [2, 37853] (by decide +kernel) (by
 intro q hq
 simp only [List.mem_cons, List.not_mem_nil, or_false] at hq
 rcases hq with rfl | rfl <;> first | exact pri_2 | exact pri_37853)
theorem pri_75707 : Pri 75707 := cert_75707.1
theorem cert_132049 : Pri 132049 ∧ ∀ a, a % 132049 ≠ 0 → a ^ (132049 - 1) % 132049 = 1 := cert _ 26 [2, 2, 2, 2, 3, 3, 7, 131] (by decide +kernel) (by
 intro q hq
 simp only [List.mem_cons, List.not_mem_nil, or_false] at hq
 rcases hq with rfl | rfl | rfl | rfl | rfl | rfl | rfl | rfl <;> first | exact pri_2 | exact pri_3 | exact pri_7 | exact pri_131)
theorem pri_132049 : Pri 132049 := cert_132049.1
theorem cert_430751 : Pri 430751 ∧ ∀ a, a % 430751 ≠ 0 → a ^ (430751 - 1) % 430751 = 1 := cert _ 17 [2, 5, 5, 5, 1723] (by decide +kernel) (by
 intro q hq
 simp only [List.mem_cons, List.not_mem_nil, or_false] at hq
 rcases hq with rfl | rfl | rfl | rfl | rfl <;> first | exact pri_2 | exact pri_5 | exact pri_1723)
theorem pri_430751 : Pri 430751 := cert_430751.1
theorem cert_569003 : Pri 569003 ∧ ∀ a, a % 569003 ≠ 0 → a ^ (569003 - 1) % 569003 = 1 := cert _ 2 [2, 7, 97, 419] (by decide +kernel) (by
 intro q hq
 simp only [List.mem_cons, List.not_mem_nil, or_false] at hq
 rcases hq with rfl | rfl | rfl | rfl <;> first | exact pri_2 | exact pri_7 | exact pri_97 | exact pri_419)
theorem pri_569003 : Pri 569003 := cert_569003.1
theorem cert_1923133 : Pri 1923133 ∧ ∀ a, a % 1923133 ≠ 0 → a ^ (1923133 - 1) % 1923133 = 1 := cert _ 2 [2, 2, 3, 43, 3727] (by decide +kernel) (by
 intro q hq
 simp only [List.mem_cons, List.not_mem_nil, or_false] at hq
 rcases hq with rfl | rfl | rfl | rfl | rfl <;> first | exact pri_2 | exact pri_3 | exact pri_43 | exact pri_3727)
theorem pri_1923133 : Pri 1923133 := cert_1923133.1
theorem cert_8574133 : Pri 8574133 ∧ ∀ a, a % 8574133 ≠ 0 → a ^ (8574133 - 1) % 8574133 = 1 := cert _ 2 [2, 2, 3, 7, 103, 991] (by decide +kernel) (by
 intro q hq
 simp only [List.mem_cons, List.not_mem_nil, or_false] at hq
 rcases hq with rfl | rfl | rfl | rfl | rfl | rfl <;> first | exact pri_2 | exact pri_3 | exact pri_7 | exact pri_103 | exact pri_991)
theorem pri_8574133 : Pri 8574133 := cert_8574133.1
theorem cert_2773320623 : Pri 2773320623 ∧ ∀ a, a % 2773320623 ≠ 0 → a ^ (2773320623 - 1) % 2773320623 = 1 := cert _ 5 [2, 2437, 569003] (by decide +kernel) (by
 intro q hq
 simp only [List.mem_cons, List.not_mem_nil, or_false] at hq
 rcases hq with rfl | rfl | rfl <;> first | exact pri_2 | exact pri_2437 | exact pri_569003)
theorem pri_2773320623 : Pri 2773320623 := cert_2773320623.1
theorem cert_72106336199 : Pri 72106336199 ∧ ∀ a, a % 72106336199 ≠ 0 → a ^ (72106336199 - 1) % 72106336199 = 1 := cert _ 7 [2, 13, 2773320623] (by decide +kernel) (by
 intro q hq
 simp only [List.mem_cons, List.not_mem_nil, or_false] at hq
 rcases hq with rfl | rfl | rfl <;> first | exact pri_2 | exact pri_13 | exact pri_2773320623)
theorem pri_72106336199 : Pri 72106336199 := cert_72106336199.1
theorem cert_1919519569386763 : Pri 1919519569386763 ∧ ∀ a, a % 1919519569386763 ≠ 0 → a ^ (1919519569386763 - 1) % 1919519569386763 = 1 := cert _ 2 [2, 3, 7, 19, 47, 47, 127, 8574133] (by decide +kernel) (by
 intro q hq
 simp only [List.mem_cons, List.not_mem_nil, or_false] at hq
 rcases hq with rfl | rfl | rfl | rfl | rfl | rfl | rfl | rfl <;> first | exact pri_2 | exact pri_3 | exact pri_7 | exact pri_19 | exact pri_47 | exact pri_127 | exact pri_8574133)
theorem pri_1919519569386763 : Pri 1919519569386763 := cert_1919519569386763.1
theorem cert_31757755568855353 : Pri 31757755568855353 ∧ ∀ a, a % 31757755568855353 ≠ 0 → a ^ (31757755568855353 - 1) % 31757755568855353 = 1 := cert _ 10 [2, 2, 2, 3, 31, 107, 223, 4153, 430751] (by decide +kernel) (by
 intro q hq
 simp only [List.mem_cons, List.not_mem_nil, or_false] at hq
 rcases hq with rfl | rfl | rfl | rfl | rfl | rfl | rfl | rfl | rfl <;> first | exact pri_2 | exact pri_3 | exact pri_31 | exact pri_107 | exact pri_223 | exact pri_4153 | exact pri_430751)
theorem pri_31757755568855353 : Pri 31757755568855353 := cert_31757755568855353.1
theorem cert_75445702479781427272750846543864801 : Pri 75445702479781427272750846543864801 ∧ ∀ a, a % 75445702479781427272750846543864801 ≠ 0 → a ^ (75445702479781427272750846543864801 - 1) % 75445702479781427272750846543864801 = 1 := cert _ 7 [2, 2, 2, 2, 2, 3, 3, 5, 5, 75707, 72106336199, 1919519569386763] (by decide +kernel) (by
 intro q hq
 simp only [List.mem_cons, List.not_mem_nil, or_false] at hq
 rcases hq with rfl | rfl | rfl | rfl | rfl | rfl | rfl | rfl | rfl | rfl | rfl | rfl <;> first | exact pri_2 | exact pri_3 | exact pri_5 | exact pri_75707 | exact pri_72106336199 | exact pri_1919519569386763)
theorem pri_75445702479781427272750846543864801 : Pri 75445702479781427272750846543864801 := cert_75445702479781427272750846543864801.1
theorem cert_74058212732561358302231226437062788676166966415465897661863160754340907 : Pri 74058212732561358302231226437062788676166966415465897661863160754340907 ∧ ∀ a, a % 74058212732561358302231226437062788676166966415465897661863160754340907 ≠ 0 → a ^ (74058212732561358302231226437062788676166966415465897661863160754340907 - 1) % 74058212732561358302231226437062788676166966415465897661863160754340907 = 1 := cert _ 2 [2, 3, 353, 57467, 132049, 1923133, 31757755568855353, 75445702479781427272750846543864801] (by decide +kernel) (by
 intro q hq
 simp only [List.mem_cons, List.not_mem_nil, or_false] at hq
 rcases hq with rfl | rfl | rfl | rfl | rfl | rfl | rfl | rfl <;> first | exact pri_2 | exact pri_3 | exact pri_353 | exact pri_57467 | exact pri_132049 | exact pri_1923133 | exact pri_31757755568855353 | exact pri_75445702479781427272750846543864801)
theorem pri_74058212732561358302231226437062788676166966415465897661863160754340907 : Pri 74058212732561358302231226437062788676166966415465897661863160754340907 := cert_74058212732561358302231226437062788676166966415465897661863160754340907.1
theorem cert_P : Pri 57896044618658097711785492504343953926634992332820282019728792003956564819949 ∧ ∀ a, a % 57896044618658097711785492504343953926634992332820282019728792003956564819949 ≠ 0 → a ^ (57896044618658097711785492504343953926634992332820282019728792003956564819949 - 1) % 57896044618658097711785492504343953926634992332820282019728792003956564819949 = 1 := cert _ 2 [2, 2, 3, 65147, 74058212732561358302231226437062788676166966415465897661863160754340907] (by decide +kernel) (by
 intro q hq
 simp only [List.mem_cons, List.not_mem_nil, or_false] at hq
 rcases hq with rfl | rfl | rfl | rfl | rfl <;> first | exact pri_2 | exact pri_3 | exact pri_65147 | exact pri_74058212732561358302231226437062788676166966415465897661863160754340907)
theorem pri_P : Pri 57896044618658097711785492504343953926634992332820282019728792003956564819949 := cert_P.1
theorem fermatE (a e : Nat) (he : e + 1 = 57896044618658097711785492504343953926634992332820282019728792003956564819949) (h : a % 57896044618658097711785492504343953926634992332820282019728792003956564819949 ≠ 0) : a ^ e % 57896044618658097711785492504343953926634992332820282019728792003956564819949 = 1 := by
 have h1 := cert_P.2 a h
 have h2 : e = 57896044618658097711785492504343953926634992332820282019728792003956564819949 - 1 := by omega
 rw [h2]
 exact h1
end Go.Proofs.YtakkicppgkmokaaGreat
