/- Sums and differences limb by limb: plain arithmetic. -/
import Derived.Test.YtlmffjpfjbhliaaAbM2
namespace Go.Ab
theorem pow_take (l : List Nat) (k : Nat) : val (l.take (k + 1)) = val (l.take k) + B ^ k * l.getD k 0 := val_take_succ' l k
theorem val_snoc (l : List Nat) (x : Nat) : val (l ++ [x]) = val l + B ^ l.length * x := by
  rw [val_app]; simp [val]
/-- A sum, one limb more. -/
theorem add_step (a b o : List Nat) (i c : Nat) (ho : o.length = i) (h : val o + B ^ i * c = val (a.take i) + val (b.take i)) :
    val (o ++ [(c + (a.getD i 0 + b.getD i 0)) % 4294967296]) + B ^ (i + 1) * ((c + (a.getD i 0 + b.getD i 0)) / 4294967296) = val (a.take (i + 1)) + val (b.take (i + 1)) := by
  rw [val_snoc, ho, pow_take, pow_take]
  generalize a.getD i 0 = x
  generalize b.getD i 0 = y
  have e : B ^ i * ((c + (x + y)) % 4294967296) + B ^ (i + 1) * ((c + (x + y)) / 4294967296) = B ^ i * c + B ^ i * x + B ^ i * y := by
    rw [Nat.pow_succ, Nat.mul_assoc, ← Nat.mul_add]
    have : (c + (x + y)) % 4294967296 + B * ((c + (x + y)) / 4294967296) = c + (x + y) := Nat.mod_add_div _ _
    rw [this, Nat.mul_add, Nat.mul_add]; omega
  omega
theorem add_end (a b o : List Nat) (i c : Nat) (hl : Limbs a) (hm : Limbs b) (ha : a.length < i) (hb : b.length < i) (h : val o + B ^ i * c = val (a.take i) + val (b.take i)) : val o = val a + val b := by
  rw [List.take_of_length_le (by omega), List.take_of_length_le (by omega)] at h
  have h1 := val_lt a hl
  have h2 := val_lt b hm
  obtain ⟨k, rfl⟩ : ∃ k, i = k + 1 := ⟨i - 1, by omega⟩
  have h3 : B ^ a.length ≤ B ^ k := Nat.pow_le_pow_right (by decide) (by omega)
  have h4 : B ^ b.length ≤ B ^ k := Nat.pow_le_pow_right (by decide) (by omega)
  rcases Nat.eq_zero_or_pos c with rfl | hc
  · rw [Nat.mul_zero, Nat.add_zero] at h; exact h
  · exfalso
    have : B ^ (k + 1) * 1 ≤ B ^ (k + 1) * c := Nat.mul_le_mul_left _ hc
    have h5 : B ^ (k + 1) = 4294967296 * B ^ k := by rw [Nat.pow_succ, Nat.mul_comm]
    omega
/-- A difference, one limb more. -/
theorem sub_step (a b o : List Nat) (i c v w : Nat) (ho : o.length = i) (h' : val o + val (b.take i) = val (a.take i) + B ^ i * c) (hv : v + b.getD i 0 + c = a.getD i 0 + 4294967296 * w) :
    val (o ++ [v]) + val (b.take (i + 1)) = val (a.take (i + 1)) + B ^ (i + 1) * w := by
  rw [val_snoc, ho, pow_take, pow_take]
  generalize a.getD i 0 = x at *
  generalize b.getD i 0 = y at *
  have e : B ^ i * v + B ^ i * y + B ^ i * c = B ^ i * x + B ^ (i + 1) * w := by
    rw [Nat.pow_succ, Nat.mul_assoc, ← Nat.mul_add, ← Nat.mul_add, ← Nat.mul_add, hv]
  omega
theorem sub_end (a b o : List Nat) (i c : Nat) (ha : a.length ≤ i) (hb : b.length ≤ i) (ho : Limbs o) (hi : o.length = i) (hle : val b ≤ val a) (h : val o + val (b.take i) = val (a.take i) + B ^ i * c) : val o = val a - val b := by
  rw [List.take_of_length_le ha, List.take_of_length_le hb] at h
  have h1 := val_lt o ho
  rw [hi] at h1
  rcases Nat.eq_zero_or_pos c with rfl | hc
  · rw [Nat.mul_zero, Nat.add_zero] at h; omega
  · exfalso
    have : B ^ i * 1 ≤ B ^ i * c := Nat.mul_le_mul_left _ hc
    omega
end Go.Ab
