/- How many bits a number has: plain arithmetic. -/
import Derived.Test.YtlmffjpfjbhliaaAbM3
namespace Go.Ab
theorem blen_0 : blen 0 = 0 := rfl
theorem blen_of (v k : Nat) (h : 2 ^ k ≤ v) (h' : v < 2 ^ (k + 1)) : blen v = k + 1 := by
  have h0 : v ≠ 0 := by have := Nat.two_pow_pos k; omega
  rw [blen, if_neg h0, (Nat.log2_eq_iff h0).mpr ⟨h, h'⟩]
theorem blen_is (v : Nat) (h : v ≠ 0) : ∃ k, blen v = k + 1 ∧ 2 ^ k ≤ v ∧ v < 2 ^ (k + 1) := by
  have := (Nat.log2_eq_iff (k := Nat.log2 v) h).mp rfl
  exact ⟨Nat.log2 v, by rw [blen, if_neg h], this.1, this.2⟩
theorem blen_pos (v : Nat) (h : v ≠ 0) : 0 < blen v := by
  obtain ⟨k, h1, _⟩ := blen_is v h; omega
theorem blen_eq0 (v : Nat) : blen v = 0 ↔ v = 0 := by
  constructor
  · intro h
    rcases Nat.eq_zero_or_pos v with h1 | h1
    · exact h1
    · have := blen_pos v (by omega); omega
  · intro h; subst h; rfl
theorem lt_blen (v : Nat) : v < 2 ^ blen v := by
  by_cases h : v = 0
  · subst h; decide
  · obtain ⟨k, h1, _, h3⟩ := blen_is v h; rw [h1]; exact h3
theorem blen_le (v k : Nat) (h : v < 2 ^ k) : blen v ≤ k := by
  by_cases h0 : v = 0
  · subst h0; exact Nat.zero_le _
  · obtain ⟨j, h1, h2, _⟩ := blen_is v h0
    rw [h1]
    exact (Nat.pow_lt_pow_iff_right (by decide)).mp (Nat.lt_of_le_of_lt h2 h)
/-- A number below, and one above. -/
theorem blen_up (v r k : Nat) (h : v ≠ 0) (hr : r < 2 ^ k) : blen (r + 2 ^ k * v) = blen v + k := by
  obtain ⟨j, h1, h2, h3⟩ := blen_is v h
  rw [h1, show j + 1 + k = (k + j) + 1 by omega]
  apply blen_of
  · rw [Nat.pow_add]
    have := Nat.mul_le_mul_left (2 ^ k) h2
    omega
  · rw [show k + j + 1 = k + (j + 1) by omega, Nat.pow_add]
    have := Nat.mul_le_mul_left (2 ^ k) (show v + 1 ≤ 2 ^ (j + 1) by omega)
    rw [Nat.mul_add, Nat.mul_one] at this
    omega
theorem blen_down (v k : Nat) (h : 2 ^ k ≤ v) : blen v = blen (v / 2 ^ k) + k := by
  have h0 : v / 2 ^ k ≠ 0 := by
    have := Nat.div_pos h (Nat.two_pow_pos k); omega
  have := blen_up (v / 2 ^ k) (v % 2 ^ k) k h0 (Nat.mod_lt _ (Nat.two_pow_pos k))
  rw [Nat.mod_add_div] at this
  exact this
theorem B_pow (k : Nat) : B ^ k = 2 ^ (32 * k) := by
  rw [Nat.pow_mul]
/-- The bits of a number whose top limb is l[y]. -/
theorem blen_val (l : List Nat) (hl : Limbs l) (y : Nat) (hz : l.getD y 0 ≠ 0) (hv : val (l.take (y + 1)) = val l) : blen (val l) = 32 * y + blen (l.getD y 0) := by
  rw [← hv, val_take_succ', B_pow, blen_up _ _ _ hz (by rw [← B_pow]; exact val_take_lt l hl y)]
  omega
end Go.Ab
