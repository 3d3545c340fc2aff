/- More plain arithmetic of the limb statements. -/
import Derived.Test.YtlmffjpfjbhliaaAbM7
namespace Go.Ab
/-- Any number as one from 0 to n - 1. -/
def placeN (v n : Int) : Int := if v.tmod n < 0 then v.tmod n + n else v.tmod n
theorem place_range (v n : Int) (hn : 0 < n) : 0 ≤ placeN v n ∧ placeN v n < n := by
  have h1 := Int.tmod_lt_of_pos v hn
  have h2 : -n < v.tmod n := by
    have := Int.lt_tmod_of_pos v hn
    omega
  unfold placeN
  split <;> omega
theorem cmpZ_flip (x y : Nat) : cmpZ y x = - cmpZ x y := by
  unfold cmpZ
  by_cases h : x < y
  · have : ¬ y < x := by omega
    simp [h, this]
  · by_cases g : y < x
    · simp [h, g]
    · simp [h, g]
theorem cmpZ_add (x y z : Nat) : cmpZ (x + z) (y + z) = cmpZ x y := by
  unfold cmpZ
  simp only [Nat.add_lt_add_iff_right]
theorem cmpZ_range (x y : Nat) : -1 ≤ cmpZ x y ∧ cmpZ x y ≤ 1 := by
  unfold cmpZ
  split
  · omega
  · split <;> omega
theorem val_zeros (l : List Nat) (k : Nat) : val (l ++ List.replicate k 0) = val l := by
  rw [val_app, val_rep, Nat.mul_zero, Nat.add_zero]
theorem blen_shl (v k : Nat) (h : v ≠ 0) : blen (v * 2 ^ k) = blen v + k := by
  have := blen_up v 0 k h (Nat.two_pow_pos k)
  rwa [Nat.zero_add, Nat.mul_comm] at this
theorem blen_top (v : Nat) (h : v ≠ 0) : blen (v / 2 ^ (blen v - 1)) = 1 := by
  obtain ⟨k, h1, h2, _⟩ := blen_is v h
  have := blen_down v k h2
  rw [h1, Nat.add_sub_cancel]
  omega
theorem blen_gone (v : Nat) : v / 2 ^ blen v = 0 := Nat.div_eq_of_lt (lt_blen v)
theorem pow_div_lt (a b : Nat) (h : a < b) : 2 ^ a / 2 ^ b = 0 ∧ 2 ^ a % 2 ^ b = 2 ^ a := by
  have := Nat.pow_lt_pow_right (a := 2) (by decide) h
  exact ⟨Nat.div_eq_of_lt this, Nat.mod_eq_of_lt this⟩
theorem pow_div_ge (a b : Nat) (h : b ≤ a) : 2 ^ a / 2 ^ b = 2 ^ (a - b) ∧ 2 ^ a % 2 ^ b = 0 := by
  have e : 2 ^ a = 2 ^ b * 2 ^ (a - b) := by rw [← Nat.pow_add, show b + (a - b) = a by omega]
  have h0 := Nat.two_pow_pos b
  constructor
  · rw [e, Nat.mul_div_cancel_left _ h0]
  · rw [e, Nat.mul_mod_right]
theorem blen_pow_pred (a : Nat) : blen (2 ^ a - 1) = a := by
  cases a with
  | zero => rfl
  | succ a =>
    have h0 := Nat.two_pow_pos a
    apply blen_of
    · rw [pow1]; omega
    · rw [pow1]; omega
end Go.Ab
