/- Comparing numbers by limbs from the top: plain arithmetic. -/
import Derived.Test.YtlmffjpfjbhliaaAbM1
namespace Go.Ab
/-- The compare of two numbers. -/
def cmpZ (x y : Nat) : Int := if x < y then -1 else if y < x then 1 else 0
theorem cmpZ_self (x : Nat) : cmpZ x x = 0 := by simp [cmpZ]
theorem cmpZ_eq0 (x y : Nat) : cmpZ x y = 0 ↔ x = y := by
  unfold cmpZ
  split
  · constructor
    · intro h; cases h
    · omega
  · split
    · constructor
      · intro h; cases h
      · omega
    · constructor
      · omega
      · intro; rfl
theorem lt_top (C x y p q H : Nat) (hx : x < C) (hpq : p < q) : x + C * p + H < y + C * q + H := by
  have h := Nat.mul_le_mul_left C (Nat.succ_le_of_lt hpq)
  have e : C * (p + 1) = C * p + C := by rw [Nat.mul_add, Nat.mul_one]
  simp only [Nat.succ_eq_add_one] at h
  omega
theorem val_take_lt (l : List Nat) (hl : Limbs l) (k : Nat) : val (l.take k) < B ^ k := by
  have h := val_lt _ (hl.take k)
  have h2 : (l.take k).length ≤ k := by rw [List.length_take]; omega
  exact Nat.lt_of_lt_of_le h (Nat.pow_le_pow_right (by decide) h2)
/-- Two numbers that are alike from limb k on. -/
def Alike (a b : List Nat) (k : Nat) : Prop := ∃ h, val a = val (a.take k) + B ^ k * h ∧ val b = val (b.take k) + B ^ k * h
theorem alike_top (a b : List Nat) (k : Nat) (ha : a.length ≤ k) (hb : b.length ≤ k) : Alike a b k := ⟨0, by rw [List.take_of_length_le ha]; simp, by rw [List.take_of_length_le hb]; simp⟩
theorem alike_down (a b : List Nat) (k : Nat) (h : Alike a b (k + 1)) (he : a.getD k 0 = b.getD k 0) : Alike a b k := by
  obtain ⟨u, h1, h2⟩ := h
  refine ⟨a.getD k 0 + B * u, ?_, ?_⟩
  · rw [h1, val_take_succ', Nat.mul_add, Nat.pow_succ, Nat.mul_assoc, Nat.add_assoc]
  · rw [h2, val_take_succ', Nat.mul_add, Nat.pow_succ, Nat.mul_assoc, Nat.add_assoc, he]
theorem alike_ne (a b : List Nat) (ha : Limbs a) (hb : Limbs b) (k : Nat) (h : Alike a b (k + 1)) (he : a.getD k 0 ≠ b.getD k 0) : cmpZ (val a) (val b) = cmpZ (a.getD k 0) (b.getD k 0) := by
  obtain ⟨u, h1, h2⟩ := h
  rw [val_take_succ'] at h1 h2
  rcases Nat.lt_or_gt_of_ne he with hh | hh
  · have := lt_top (B ^ k) (val (a.take k)) (val (b.take k)) _ _ (B ^ (k + 1) * u) (val_take_lt a ha k) hh
    rw [← h1, ← h2] at this
    simp only [cmpZ, this, hh, if_true]
  · have := lt_top (B ^ k) (val (b.take k)) (val (a.take k)) _ _ (B ^ (k + 1) * u) (val_take_lt b hb k) hh
    rw [← h1, ← h2] at this
    have h3 : ¬ val a < val b := by omega
    have h4 : ¬ a.getD k 0 < b.getD k 0 := by omega
    simp only [cmpZ, this, hh, h3, h4, if_true, if_false]
theorem alike_0 (a b : List Nat) (h : Alike a b 0) : val a = val b := by
  obtain ⟨u, h1, h2⟩ := h
  simp [val] at h1 h2
  omega
/-- How many bits. -/
def blen (v : Nat) : Nat := if v = 0 then 0 else Nat.log2 v + 1
end Go.Ab
