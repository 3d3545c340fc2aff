/- Powers of two in limbs. No conditions. -/
import Derived.Test.YtlmffjpfjbhliaaAbL13
namespace Go.Ab
open Go.Proofs
set_option maxRecDepth 100000
set_option linter.unusedSimpArgs false

theorem shn_nat (K : Nat) (h : K ≤ 4096) : shn (K : Int) = K := by
  unfold shn
  rw [if_neg (by omega)]
  exact Int.toNat_natCast K
theorem blen_B (v k : Nat) (h : v < B ^ k) : blen v ≤ 32 * k := blen_le _ _ (by rw [← B_pow]; exact h)
theorem pow2_B (K k : Nat) (h : K ≤ 32 * k) : 2 ^ K ≤ B ^ k := by
  rw [B_pow]; exact Nat.pow_le_pow_right (by decide) h
theorem mul_B (x y i j k : Nat) (hx : x < B ^ i) (hy : y ≤ B ^ j) (hk : i + j = k) : x * y < B ^ k := by
  subst hk
  rw [Nat.pow_add]
  exact Nat.mul_lt_mul_of_lt_of_le hx hy (Nat.pow_pos (by decide))

end Go.Ab
