/- Fermat's law for 2^255 - 19: whoever's order is p - 1 makes all numbers below p; certificates of primes. No program in sight. -/
import Derived.Test.YtakkicppgkmokaaGreatPlainJ
set_option linter.unusedSimpArgs false
set_option linter.unusedVariables false
namespace Go.Proofs.YtakkicppgkmokaaGreat
def Pri (n : Nat) : Prop := 1 < n ∧ ∀ d, d ∣ n → d = 1 ∨ d = n
def prodN : List Nat → Nat
 | [] => 1
 | x :: l => x * prodN l
def pm (n : Nat) : Nat → Nat → Nat → Nat
 | 0, _, _ => 1 % n
 | f + 1, g, e => if e % 2 = 1 then g * pm n f (g * g % n) (e / 2) % n else pm n f (g * g % n) (e / 2)
def certB (n g : Nat) (fs : List Nat) : Bool := decide (1 < n) && decide (n < 2 ^ 256) && prodN fs == n - 1 && pm n 256 g (n - 1) == 1 && fs.all fun q => pm n 256 g ((n - 1) / q) != 1
end Go.Proofs.YtakkicppgkmokaaGreat
