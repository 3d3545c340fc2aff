/- Shifts by limbs: plain arithmetic. -/
import Derived.Test.YtlmffjpfjbhliaaAbM4
namespace Go.Ab
/-- One limb up by r bits, with what came over from below. -/
theorem shl_or (x c r : Nat) (hc : c < 2 ^ r) : c ||| (x * 2 ^ r) = c + x * 2 ^ r := by
  rw [Nat.or_comm, Nat.mul_comm, ← Nat.two_pow_add_eq_or_of_lt hc, Nat.add_comm]
theorem shl_lt (x c r : Nat) (hx : x < 4294967296) (hr : r < 32) (hc : c < 2 ^ r) : c + x * 2 ^ r < 18446744073709551616 ∧ (c + x * 2 ^ r) / 4294967296 < 2 ^ r := by
  have h1 : 2 ^ r ≤ 2 ^ 31 := Nat.pow_le_pow_right (by decide) (by omega)
  have h2 : (x + 1) * 2 ^ r ≤ 4294967296 * 2 ^ r := Nat.mul_le_mul_right _ hx
  rw [Nat.add_mul, Nat.one_mul] at h2
  have h3 : c + x * 2 ^ r < 4294967296 * 2 ^ r := by omega
  constructor
  · have : (2 : Nat) ^ 31 = 2147483648 := rfl
    omega
  · rw [Nat.div_lt_iff_lt_mul (by decide)]; omega
theorem shl_step (a o : List Nat) (w r i c : Nat) (ho : o.length = w + i) (h : val o + B ^ (w + i) * c = B ^ w * (2 ^ r * val (a.take i))) :
    val (o ++ [(c + a.getD i 0 * 2 ^ r) % 4294967296]) + B ^ (w + (i + 1)) * ((c + a.getD i 0 * 2 ^ r) / 4294967296) = B ^ w * (2 ^ r * val (a.take (i + 1))) := by
  rw [val_snoc, ho, val_take_succ']
  generalize a.getD i 0 = x
  have e : B ^ (w + i) * ((c + x * 2 ^ r) % 4294967296) + B ^ (w + (i + 1)) * ((c + x * 2 ^ r) / 4294967296) = B ^ (w + i) * c + B ^ (w + i) * (x * 2 ^ r) := by
    rw [show w + (i + 1) = (w + i) + 1 by omega, Nat.pow_succ, Nat.mul_assoc, ← Nat.mul_add, ← Nat.mul_add]
    have : (c + x * 2 ^ r) % 4294967296 + B * ((c + x * 2 ^ r) / 4294967296) = c + x * 2 ^ r := Nat.mod_add_div _ _
    rw [this]
  have e2 : B ^ w * (2 ^ r * (val (a.take i) + B ^ i * x)) = B ^ w * (2 ^ r * val (a.take i)) + B ^ (w + i) * (x * 2 ^ r) := by
    rw [Nat.mul_add, Nat.mul_add, Nat.pow_add]
    congr 1
    rw [Nat.mul_assoc]
    congr 1
    rw [Nat.mul_comm (2 ^ r), Nat.mul_assoc]
  omega
theorem shl_end (a o : List Nat) (k r w c : Nat) (hk : k = 32 * w + r) (ho : o.length = w + a.length) (hc : c < 4294967296) (h : val o + B ^ (w + a.length) * c = B ^ w * (2 ^ r * val (a.take a.length))) : val (o ++ [c % 4294967296]) = val a * 2 ^ k := by
  rw [Nat.mod_eq_of_lt hc, val_snoc, ho, h, List.take_length, hk, Nat.pow_add, ← B_pow]
  rw [Nat.mul_comm (val a), Nat.mul_assoc]

/-- The limbs of a number down by r bits. -/
def shrL (r : Nat) : List Nat → List Nat
  | [] => []
  | x :: l => ((x + B * l.getD 0 0) / 2 ^ r % B) :: shrL r l
theorem shrL_len (r : Nat) (l : List Nat) : (shrL r l).length = l.length := by
  induction l with
  | nil => rfl
  | cons x l ih => simp [shrL, ih]
theorem shrL_get (r : Nat) (l : List Nat) (i : Nat) (h : i < l.length) : (shrL r l).getD i 0 = (l.getD i 0 + B * l.getD (i + 1) 0) / 2 ^ r % B := by
  induction l generalizing i with
  | nil => cases h
  | cons x l ih =>
    cases i with
    | zero => rfl
    | succ i =>
      have := ih i (by simpa using h)
      simpa [shrL] using this
theorem shrL_limbs (r : Nat) (l : List Nat) : Limbs (shrL r l) := by
  induction l with
  | nil => exact limbs_nil
  | cons x l ih => exact limbs_cons (Nat.mod_lt _ (by decide)) ih
theorem shr_one (x V p q : Nat) (hpq : p * q = B) (hx : x < B) (hp : 0 < p) : (x + B * V) / p = (x + B * (V % B)) / p % B + B * (V / p) := by
  have hq : 0 < q := Nat.pos_of_ne_zero (fun h => by subst h; simp at hpq)
  have e1 : ∀ W, (x + B * W) / p = x / p + q * W := by
    intro W
    rw [← hpq, Nat.mul_assoc, Nat.add_mul_div_left _ _ hp]
  rw [e1, e1]
  have hxq : x / p < q := by
    rw [Nat.div_lt_iff_lt_mul hp, Nat.mul_comm]; rw [hpq]; exact hx
  have e2 : ∀ W, q * W = B * (W / p) + q * (W % p) := by
    intro W
    rw [← hpq, Nat.mul_comm p q, Nat.mul_assoc, ← Nat.mul_add, Nat.div_add_mod]
  have hmod : V % B % p = V % p := Nat.mod_mod_of_dvd V ⟨q, hpq.symm⟩
  rw [e2 V, e2 (V % B), hmod]
  have hlt : x / p + q * (V % p) < B := by
    have : V % p + 1 ≤ p := Nat.mod_lt _ hp
    have h2 : q * (V % p + 1) ≤ q * p := Nat.mul_le_mul_left _ this
    rw [Nat.mul_add, Nat.mul_one, Nat.mul_comm q p, hpq] at h2
    omega
  have e3 : (x / p + (B * (V % B / p) + q * (V % p))) % B = x / p + q * (V % p) := by
    rw [show x / p + (B * (V % B / p) + q * (V % p)) = (x / p + q * (V % p)) + B * (V % B / p) by omega, Nat.add_mul_mod_self_left, Nat.mod_eq_of_lt hlt]
  rw [e3]; omega
theorem val_mod (l : List Nat) (h : Limbs l) : val l % B = l.getD 0 0 := by
  cases l with
  | nil => rfl
  | cons x l =>
    show (x + B * val l) % B = x
    rw [Nat.add_mul_mod_self_left, Nat.mod_eq_of_lt h.head]
theorem shrL_val (r : Nat) (hr : r < 32) (l : List Nat) (h : Limbs l) : val (shrL r l) = val l / 2 ^ r := by
  have hpq : 2 ^ r * 2 ^ (32 - r) = B := by rw [← Nat.pow_add, show r + (32 - r) = 32 by omega]
  induction l with
  | nil => simp [shrL, val]
  | cons x l ih =>
    have := shr_one x (val l) (2 ^ r) (2 ^ (32 - r)) hpq h.head (Nat.two_pow_pos r)
    rw [val_mod l h.tail] at this
    simp only [shrL, val, ih h.tail]
    exact this.symm
theorem val_drop (l : List Nat) (h : Limbs l) (w : Nat) : val (l.drop w) = val l / B ^ w := by
  have h1 : val l = val (l.take w) + B ^ (l.take w).length * val (l.drop w) := by
    rw [← val_app, List.take_append_drop]
  by_cases hw : w ≤ l.length
  · rw [show (l.take w).length = w by rw [List.length_take]; omega] at h1
    rw [h1, Nat.add_mul_div_left _ _ (Nat.pow_pos (by decide)), Nat.div_eq_of_lt (val_take_lt l h w), Nat.zero_add]
  · rw [List.drop_of_length_le (by omega)]
    have h2 := val_lt l h
    have h3 : B ^ l.length ≤ B ^ w := Nat.pow_le_pow_right (by decide) (by omega)
    rw [Nat.div_eq_of_lt (by omega)]; rfl
theorem shr_end (l : List Nat) (h : Limbs l) (k : Nat) : val (shrL (k % 32) (l.drop (k / 32))) = val l / 2 ^ k := by
  rw [shrL_val _ (Nat.mod_lt _ (by decide)) _ (h.drop _), val_drop l h, Nat.div_div_eq_div_mul, B_pow, ← Nat.pow_add, Nat.div_add_mod]
theorem shr_none (l : List Nat) (h : Limbs l) (k : Nat) (hk : l.length ≤ k / 32) : val l / 2 ^ k = 0 := by
  have h2 := val_lt l h
  rw [B_pow] at h2
  have h3 : 2 ^ (32 * l.length) ≤ 2 ^ k := Nat.pow_le_pow_right (by decide) (by omega)
  exact Nat.div_eq_of_lt (by omega)
/-- One more limb is set. -/
theorem set_next (L : List Nat) (i : Nat) (h : i < L.length) (x : Nat) (hx : x = L.getD i 0) : (L.take i ++ List.replicate (L.length - i) 0).set i x = L.take (i + 1) ++ List.replicate (L.length - (i + 1)) 0 := by
  have hl : (L.take i).length = i := by rw [List.length_take]; omega
  rw [List.set_append_right _ _ (by omega), hl, Nat.sub_self]
  obtain ⟨m, hm⟩ : ∃ m, L.length - i = m + 1 := ⟨L.length - i - 1, by omega⟩
  rw [hm, List.replicate_succ, List.set_cons_zero, show L.length - (i + 1) = m by omega, List.take_succ_eq_append_getElem h]
  subst hx
  simp only [List.getD_eq_getElem?_getD, List.getElem?_eq_getElem h, Option.getD_some, List.append_assoc, List.cons_append, List.nil_append]
end Go.Ab
