/- Products limb by limb: plain arithmetic. -/
import Derived.Test.YtlmffjpfjbhliaaAbM5
namespace Go.Ab
theorem val_set (o : List Nat) (j v : Nat) (h : j < o.length) : val (o.set j v) + B ^ j * o.getD j 0 = val o + B ^ j * v := by
  induction o generalizing j with
  | nil => cases h
  | cons x o ih =>
    cases j with
    | zero => simp [val]; omega
    | succ j =>
      have := ih j (by simpa using h)
      have e : ∀ w, B ^ (j + 1) * w = B * (B ^ j * w) := fun w => by rw [Nat.pow_succ, Nat.mul_comm (B ^ j) B, Nat.mul_assoc]
      simp only [List.set_cons_succ, val, List.getD_cons_succ, e]
      rw [Nat.add_assoc, ← Nat.mul_add, this, Nat.mul_add, ← Nat.add_assoc]
theorem limbs_set (o : List Nat) (h : Limbs o) (j v : Nat) (hv : v < B) : Limbs (o.set j v) := by
  intro x hx
  rcases List.mem_or_eq_of_mem_set hx with h' | rfl
  · exact h x h'
  · exact hv
theorem digit (o : List Nat) (h : Limbs o) (j : Nat) : val o / B ^ j % B = o.getD j 0 := by
  rw [← val_drop o h, val_mod _ (h.drop j), List.getD_eq_getElem?_getD, List.getD_eq_getElem?_getD, List.getElem?_drop, Nat.add_zero]
theorem digit_0 (o : List Nat) (h : Limbs o) (j : Nat) (hv : val o < B ^ j) : o.getD j 0 = 0 := by
  rw [← digit o h j, Nat.div_eq_of_lt hv, Nat.zero_mod]
theorem mul_lt (a b : List Nat) (ha : Limbs a) (hb : Limbs b) (i : Nat) : val (a.take i) * val b < B ^ (i + b.length) := by
  rw [Nat.pow_add]
  have h1 := val_take_lt a ha i
  have h2 := val_lt b hb
  exact Nat.mul_lt_mul'' h1 h2
theorem mul_big (x y c w : Nat) (hx : x < 4294967296) (hy : y < 4294967296) (hc : c < 4294967296) (hw : w < 4294967296) : x * y < 18446744073709551616 ∧ x * y + w < 18446744073709551616 ∧ c + (x * y + w) < 18446744073709551616 := by
  have h : x * y ≤ 4294967295 * 4294967295 := Nat.mul_le_mul (by omega) (by omega)
  generalize x * y = p at *
  omega
theorem mul_step (_a b o o' : List Nat) (i k c x : Nat) (hk : i + k < o'.length) (h : val o' + B ^ (i + k) * c = val o + B ^ i * (x * val (b.take k))) :
    val (o'.set (i + k) ((c + (x * b.getD k 0 + o'.getD (i + k) 0)) % 4294967296)) + B ^ (i + (k + 1)) * ((c + (x * b.getD k 0 + o'.getD (i + k) 0)) / 4294967296) = val o + B ^ i * (x * val (b.take (k + 1))) := by
  have h1 := val_set o' (i + k) ((c + (x * b.getD k 0 + o'.getD (i + k) 0)) % 4294967296) hk
  rw [val_take_succ']
  generalize b.getD k 0 = y at *
  generalize o'.getD (i + k) 0 = w at *
  have e : B ^ (i + k) * ((c + (x * y + w)) % 4294967296) + B ^ (i + (k + 1)) * ((c + (x * y + w)) / 4294967296) = B ^ (i + k) * c + B ^ (i + k) * (x * y) + B ^ (i + k) * w := by
    rw [show i + (k + 1) = (i + k) + 1 by omega, Nat.pow_succ, Nat.mul_assoc, ← Nat.mul_add]
    have : (c + (x * y + w)) % 4294967296 + B * ((c + (x * y + w)) / 4294967296) = c + (x * y + w) := Nat.mod_add_div _ _
    rw [this, Nat.mul_add, Nat.mul_add]; omega
  have e2 : B ^ i * (x * (val (b.take k) + B ^ k * y)) = B ^ i * (x * val (b.take k)) + B ^ (i + k) * (x * y) := by
    rw [Nat.mul_add, Nat.mul_add, Nat.pow_add, Nat.mul_assoc]
    congr 2
    rw [← Nat.mul_assoc, ← Nat.mul_assoc, Nat.mul_comm x]
  omega
theorem mul_end (a b o o' : List Nat) (i c x : Nat) (hx : x = a.getD i 0) (hk : i + b.length < o'.length) (hz : o'.getD (i + b.length) 0 = 0) (ho : val o = val (a.take i) * val b) (h : val o' + B ^ (i + b.length) * c = val o + B ^ i * (x * val (b.take b.length))) (hc : c < 4294967296) :
    val (o'.set (i + b.length) (c % 4294967296)) = val (a.take (i + 1)) * val b := by
  have h1 := val_set o' (i + b.length) (c % 4294967296) hk
  rw [hz, Nat.mul_zero, Nat.add_zero, Nat.mod_eq_of_lt hc, h, ho, List.take_length] at h1
  rw [Nat.mod_eq_of_lt hc, h1, val_take_succ', Nat.add_mul, hx, Nat.mul_assoc]
theorem mul_skip (a b o : List Nat) (i : Nat) (hx : a.getD i 0 = 0) (ho : val o = val (a.take i) * val b) : val o = val (a.take (i + 1)) * val b := by
  rw [val_take_succ', hx, Nat.mul_zero, Nat.add_zero, ho]
theorem getD_set_ne (o : List Nat) (i j v : Nat) (h : i ≠ j) : (o.set i v).getD j 0 = o.getD j 0 := by
  rw [List.getD_eq_getElem?_getD, List.getD_eq_getElem?_getD, List.getElem?_set_ne h]
end Go.Ab
