/- Quotients bit by bit: plain arithmetic. -/
import Derived.Test.YtlmffjpfjbhliaaAbM6
namespace Go.Ab
theorem pow1 (k : Nat) : 2 ^ (k + 1) = 2 * 2 ^ k := by rw [Nat.pow_succ, Nat.mul_comm]
theorem div_pow1 (A k : Nat) : A / 2 ^ k = 2 * (A / 2 ^ (k + 1)) + A / 2 ^ k % 2 := by
  rw [pow1, Nat.mul_comm 2 (2 ^ k), ← Nat.div_div_eq_div_mul]
  omega
/-- A bit of a number is a bit of one of its limbs. -/
theorem bit_limb (l : List Nat) (h : Limbs l) (i : Nat) : l.getD (i / 32) 0 / 2 ^ (i % 32) % 2 = val l / 2 ^ i % 2 := by
  rw [← digit l h, B_pow]
  have e : val l / 2 ^ i = val l / 2 ^ (32 * (i / 32)) / 2 ^ (i % 32) := by
    rw [Nat.div_div_eq_div_mul, ← Nat.pow_add, Nat.div_add_mod]
  rw [e]
  generalize val l / 2 ^ (32 * (i / 32)) = V
  have hr : i % 32 < 32 := Nat.mod_lt _ (by decide)
  generalize i % 32 = r at *
  have hB : B = 2 ^ r * (2 * 2 ^ (31 - r)) := by
    rw [← pow1, ← Nat.pow_add, show r + (31 - r + 1) = 32 by omega]
  have h1 : V % B / 2 ^ r = V / 2 ^ r % (2 * 2 ^ (31 - r)) := by
    rw [hB, Nat.mod_mul_right_div_self]
  rw [h1, Nat.mod_mul_right_mod]
theorem getD_lt' (l : List Nat) (hl : Limbs l) (i : Nat) : l.getD i 0 < 4294967296 := by
  by_cases h : i < l.length
  · rw [List.getD_eq_getElem?_getD, List.getElem?_eq_getElem h]
    exact hl _ (List.getElem_mem h)
  · rw [List.getD_eq_getElem?_getD, List.getElem?_eq_none (by omega)]; decide
theorem or_bit (o : List Nat) (h : Limbs o) (i Q : Nat) (hv : val o = Q * 2 ^ (i + 1)) : (o.getD (i / 32) 0 ||| 2 ^ (i % 32)) = o.getD (i / 32) 0 + 2 ^ (i % 32) ∧ (o.getD (i / 32) 0 ||| 2 ^ (i % 32)) < 4294967296 := by
  have hr : i % 32 < 32 := Nat.mod_lt _ (by decide)
  constructor
  · have hd := digit o h (i / 32)
    have hi : i + 1 = 32 * (i / 32) + (i % 32 + 1) := by omega
    rw [hv, hi, Nat.pow_add, ← B_pow, Nat.mul_comm (B ^ (i / 32)), ← Nat.mul_assoc, Nat.mul_div_cancel _ (Nat.pow_pos (by decide))] at hd
    have hB : B = 2 ^ (i % 32 + 1) * 2 ^ (31 - i % 32) := by rw [← Nat.pow_add, show i % 32 + 1 + (31 - i % 32) = 32 by omega]
    rw [hB, Nat.mul_comm Q, Nat.mul_mod_mul_left] at hd
    rw [← hd, ← Nat.two_pow_add_eq_or_of_lt (Nat.pow_lt_pow_right (by decide) (Nat.lt_succ_self _))]
  · refine Nat.or_lt_two_pow (n := 32) ?_ (Nat.pow_lt_pow_right (by decide) hr)
    have := getD_lt' o h (i / 32)
    exact this
theorem div_set (o : List Nat) (h : Limbs o) (i Q : Nat) (hi : i / 32 < o.length) (hv : val o = Q * 2 ^ (i + 1)) : val (o.set (i / 32) (o.getD (i / 32) 0 ||| 2 ^ (i % 32))) = (2 * Q + 1) * 2 ^ i := by
  have h1 := val_set o (i / 32) (o.getD (i / 32) 0 ||| 2 ^ (i % 32)) hi
  rw [(or_bit o h i Q hv).1, Nat.mul_add, hv, B_pow, ← Nat.pow_add, Nat.div_add_mod] at h1
  rw [(or_bit o h i Q hv).1, Nat.add_mul, Nat.one_mul]
  have h2 : Q * 2 ^ (i + 1) = 2 * Q * 2 ^ i := by rw [pow1, Nat.mul_comm 2 Q, Nat.mul_assoc]
  omega
end Go.Ab
