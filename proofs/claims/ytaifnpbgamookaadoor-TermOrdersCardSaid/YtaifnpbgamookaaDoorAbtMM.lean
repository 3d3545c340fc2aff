/- Several texts put together: AbM1, AbM2, AbM3, AbM4, AbM5, AbM6, AbM7, AbM8, AbMn1, AbMn2. Conditions: as each part says. -/

/- Numbers as lists of limbs: plain arithmetic, no program in sight. -/
namespace Go.Ab
abbrev B : Nat := 4294967296
def Limbs (l : List Nat) : Prop := ∀ x ∈ l, x < 4294967296
def val : List Nat → Nat
  | [] => 0
  | x :: r => x + B * val r
def digs (v : Nat) : List Nat := if _h : v = 0 then [] else (v % B) :: digs (v / B)
termination_by v
decreasing_by exact Nat.div_lt_self (by omega) (by decide)
theorem digs_0 : digs 0 = [] := by rw [digs]; simp
theorem digs_pos (v : Nat) (h : v ≠ 0) : digs v = (v % B) :: digs (v / B) := by rw [digs]; simp [h]
theorem limbs_nil : Limbs [] := by intro x h; cases h
theorem limbs_cons {x : Nat} {l : List Nat} (h : x < B) (hl : Limbs l) : Limbs (x :: l) := by
  intro y hy
  rcases List.mem_cons.mp hy with rfl | hy
  · exact h
  · exact hl y hy
theorem Limbs.tail {x : Nat} {l : List Nat} (h : Limbs (x :: l)) : Limbs l := fun y hy => h y (List.mem_cons_of_mem _ hy)
theorem Limbs.head {x : Nat} {l : List Nat} (h : Limbs (x :: l)) : x < B := h x (List.mem_cons_self ..)
theorem Limbs.app {l m : List Nat} (h : Limbs l) (h' : Limbs m) : Limbs (l ++ m) := fun x hx => (List.mem_append.mp hx).elim (h x) (h' x)
theorem Limbs.take {l : List Nat} (h : Limbs l) (k : Nat) : Limbs (l.take k) := fun x hx => h x (List.mem_of_mem_take hx)
theorem Limbs.drop {l : List Nat} (h : Limbs l) (k : Nat) : Limbs (l.drop k) := fun x hx => h x (List.mem_of_mem_drop hx)
theorem limbs_one {x : Nat} (h : x < B) : Limbs [x] := limbs_cons h limbs_nil
theorem limbs_digs (v : Nat) : Limbs (digs v) := by
  induction v using Nat.strongRecOn with
  | _ v ih =>
    by_cases h : v = 0
    · subst h; rw [digs_0]; exact limbs_nil
    · rw [digs_pos v h]
      exact limbs_cons (Nat.mod_lt _ (by decide)) (ih _ (Nat.div_lt_self (by omega) (by decide)))
theorem val_digs (v : Nat) : val (digs v) = v := by
  induction v using Nat.strongRecOn with
  | _ v ih =>
    by_cases h : v = 0
    · subst h; rw [digs_0]; rfl
    · rw [digs_pos v h, val, ih _ (Nat.div_lt_self (by omega) (by decide))]
      exact Nat.mod_add_div v B
theorem val_app (l m : List Nat) : val (l ++ m) = val l + B ^ l.length * val m := by
  induction l with
  | nil => simp [val]
  | cons x l ih =>
    simp only [List.cons_append, val, ih, List.length_cons, Nat.pow_succ]
    rw [Nat.mul_add, Nat.add_assoc, Nat.mul_comm (B ^ l.length) B, Nat.mul_assoc]
theorem val_lt (l : List Nat) (h : Limbs l) : val l < B ^ l.length := by
  induction l with
  | nil => simp [val]
  | cons x l ih =>
    have h1 := ih h.tail
    have h2 := h.head
    simp only [val, List.length_cons, Nat.pow_succ]
    have : B * (val l + 1) ≤ B * B ^ l.length := Nat.mul_le_mul_left _ h1
    rw [Nat.mul_comm (B ^ l.length) B]
    have e : B * (val l + 1) = B * val l + B := by rw [Nat.mul_add, Nat.mul_one]
    omega
theorem digs_val (l : List Nat) (h : Limbs l) (hc : ∀ x, l.getLast? = some x → x ≠ 0) : digs (val l) = l := by
  induction l with
  | nil => exact digs_0
  | cons x l ih =>
    have hx := h.head
    have h2 : (x + B * val l) / B = val l := by
      rw [Nat.add_mul_div_left _ _ (by decide), Nat.div_eq_of_lt hx, Nat.zero_add]
    have h1 : (x + B * val l) % B = x := by
      rw [Nat.add_mul_mod_self_left, Nat.mod_eq_of_lt hx]
    have hne : x + B * val l ≠ 0 := by
      cases l with
      | nil =>
        have := hc x rfl
        omega
      | cons y l =>
        intro h0
        have hv : val (y :: l) = 0 := by
          rcases Nat.eq_zero_or_pos (val (y :: l)) with h | h
          · exact h
          · have : B * 1 ≤ B * val (y :: l) := Nat.mul_le_mul_left _ h
            simp only [B] at *
            omega
        have := ih h.tail (by intro z hz; exact hc z (by simpa [List.getLast?_cons] using hz))
        rw [hv, digs_0] at this
        cases this
    show digs (x + B * val l) = x :: l
    rw [digs_pos _ hne, h1, h2]
    cases l with
    | nil => simp [val, digs_0]
    | cons y l => rw [ih h.tail (by intro z hz; exact hc z (by simpa [List.getLast?_cons] using hz))]
theorem digs_len (v k : Nat) (h : v < B ^ k) : (digs v).length ≤ k := by
  induction k generalizing v with
  | zero => have : v = 0 := by simpa using h
            subst this; rw [digs_0]; simp
  | succ k ih =>
    by_cases h0 : v = 0
    · subst h0; rw [digs_0]; simp
    · rw [digs_pos v h0, List.length_cons]
      have : v / B < B ^ k := by
        rw [Nat.div_lt_iff_lt_mul (by decide)]
        rwa [Nat.pow_succ] at h
      have := ih _ this
      omega
theorem val_rep (k : Nat) : val (List.replicate k 0) = 0 := by
  induction k with
  | zero => rfl
  | succ k ih => simp [List.replicate_succ, val, ih]
theorem val_take_succ (l : List Nat) (k : Nat) (h : k < l.length) : val (l.take (k + 1)) = val (l.take k) + B ^ k * l.getD k 0 := by
  rw [List.take_succ_eq_append_getElem h, val_app]
  simp [val, Nat.min_eq_left (Nat.le_of_lt h), List.getD, List.getElem?_eq_getElem h]
theorem getD_of_ge (l : List Nat) (k : Nat) (h : l.length ≤ k) : l.getD k 0 = 0 := by
  rw [List.getD_eq_getElem?_getD, List.getElem?_eq_none h]; rfl
/-- The first k limbs, 0 where there is none. -/
theorem val_take_succ' (l : List Nat) (k : Nat) : val (l.take (k + 1)) = val (l.take k) + B ^ k * l.getD k 0 := by
  by_cases h : k < l.length
  · exact val_take_succ l k h
  · rw [getD_of_ge l k (by omega), List.take_of_length_le (by omega), List.take_of_length_le (by omega)]
    simp
end Go.Ab

/- Comparing numbers by limbs from the top: plain arithmetic. -/
namespace Go.Ab
/-- The compare of two numbers. -/
def cmpZ (x y : Nat) : Int := if x < y then -1 else if y < x then 1 else 0
theorem cmpZ_self (x : Nat) : cmpZ x x = 0 := by simp [cmpZ]
theorem cmpZ_eq0 (x y : Nat) : cmpZ x y = 0 ↔ x = y := by
  unfold cmpZ
  split
  · constructor
    · intro h; cases h
    · omega
  · split
    · constructor
      · intro h; cases h
      · omega
    · constructor
      · omega
      · intro; rfl
theorem lt_top (C x y p q H : Nat) (hx : x < C) (hpq : p < q) : x + C * p + H < y + C * q + H := by
  have h := Nat.mul_le_mul_left C (Nat.succ_le_of_lt hpq)
  have e : C * (p + 1) = C * p + C := by rw [Nat.mul_add, Nat.mul_one]
  simp only [Nat.succ_eq_add_one] at h
  omega
theorem val_take_lt (l : List Nat) (hl : Limbs l) (k : Nat) : val (l.take k) < B ^ k := by
  have h := val_lt _ (hl.take k)
  have h2 : (l.take k).length ≤ k := by rw [List.length_take]; omega
  exact Nat.lt_of_lt_of_le h (Nat.pow_le_pow_right (by decide) h2)
/-- Two numbers that are alike from limb k on. -/
def Alike (a b : List Nat) (k : Nat) : Prop := ∃ h, val a = val (a.take k) + B ^ k * h ∧ val b = val (b.take k) + B ^ k * h
theorem alike_top (a b : List Nat) (k : Nat) (ha : a.length ≤ k) (hb : b.length ≤ k) : Alike a b k := ⟨0, by rw [List.take_of_length_le ha]; simp, by rw [List.take_of_length_le hb]; simp⟩
theorem alike_down (a b : List Nat) (k : Nat) (h : Alike a b (k + 1)) (he : a.getD k 0 = b.getD k 0) : Alike a b k := by
  obtain ⟨u, h1, h2⟩ := h
  refine ⟨a.getD k 0 + B * u, ?_, ?_⟩
  · rw [h1, val_take_succ', Nat.mul_add, Nat.pow_succ, Nat.mul_assoc, Nat.add_assoc]
  · rw [h2, val_take_succ', Nat.mul_add, Nat.pow_succ, Nat.mul_assoc, Nat.add_assoc, he]
theorem alike_ne (a b : List Nat) (ha : Limbs a) (hb : Limbs b) (k : Nat) (h : Alike a b (k + 1)) (he : a.getD k 0 ≠ b.getD k 0) : cmpZ (val a) (val b) = cmpZ (a.getD k 0) (b.getD k 0) := by
  obtain ⟨u, h1, h2⟩ := h
  rw [val_take_succ'] at h1 h2
  rcases Nat.lt_or_gt_of_ne he with hh | hh
  · have := lt_top (B ^ k) (val (a.take k)) (val (b.take k)) _ _ (B ^ (k + 1) * u) (val_take_lt a ha k) hh
    rw [← h1, ← h2] at this
    simp only [cmpZ, this, hh, if_true]
  · have := lt_top (B ^ k) (val (b.take k)) (val (a.take k)) _ _ (B ^ (k + 1) * u) (val_take_lt b hb k) hh
    rw [← h1, ← h2] at this
    have h3 : ¬ val a < val b := by omega
    have h4 : ¬ a.getD k 0 < b.getD k 0 := by omega
    simp only [cmpZ, this, hh, h3, h4, if_true, if_false]
theorem alike_0 (a b : List Nat) (h : Alike a b 0) : val a = val b := by
  obtain ⟨u, h1, h2⟩ := h
  simp [val] at h1 h2
  omega
/-- How many bits. -/
def blen (v : Nat) : Nat := if v = 0 then 0 else Nat.log2 v + 1
end Go.Ab

/- Sums and differences limb by limb: plain arithmetic. -/
namespace Go.Ab
theorem pow_take (l : List Nat) (k : Nat) : val (l.take (k + 1)) = val (l.take k) + B ^ k * l.getD k 0 := val_take_succ' l k
theorem val_snoc (l : List Nat) (x : Nat) : val (l ++ [x]) = val l + B ^ l.length * x := by
  rw [val_app]; simp [val]
/-- A sum, one limb more. -/
theorem add_step (a b o : List Nat) (i c : Nat) (ho : o.length = i) (h : val o + B ^ i * c = val (a.take i) + val (b.take i)) :
    val (o ++ [(c + (a.getD i 0 + b.getD i 0)) % 4294967296]) + B ^ (i + 1) * ((c + (a.getD i 0 + b.getD i 0)) / 4294967296) = val (a.take (i + 1)) + val (b.take (i + 1)) := by
  rw [val_snoc, ho, pow_take, pow_take]
  generalize a.getD i 0 = x
  generalize b.getD i 0 = y
  have e : B ^ i * ((c + (x + y)) % 4294967296) + B ^ (i + 1) * ((c + (x + y)) / 4294967296) = B ^ i * c + B ^ i * x + B ^ i * y := by
    rw [Nat.pow_succ, Nat.mul_assoc, ← Nat.mul_add]
    have : (c + (x + y)) % 4294967296 + B * ((c + (x + y)) / 4294967296) = c + (x + y) := Nat.mod_add_div _ _
    rw [this, Nat.mul_add, Nat.mul_add]; omega
  omega
theorem add_end (a b o : List Nat) (i c : Nat) (hl : Limbs a) (hm : Limbs b) (ha : a.length < i) (hb : b.length < i) (h : val o + B ^ i * c = val (a.take i) + val (b.take i)) : val o = val a + val b := by
  rw [List.take_of_length_le (by omega), List.take_of_length_le (by omega)] at h
  have h1 := val_lt a hl
  have h2 := val_lt b hm
  obtain ⟨k, rfl⟩ : ∃ k, i = k + 1 := ⟨i - 1, by omega⟩
  have h3 : B ^ a.length ≤ B ^ k := Nat.pow_le_pow_right (by decide) (by omega)
  have h4 : B ^ b.length ≤ B ^ k := Nat.pow_le_pow_right (by decide) (by omega)
  rcases Nat.eq_zero_or_pos c with rfl | hc
  · rw [Nat.mul_zero, Nat.add_zero] at h; exact h
  · exfalso
    have : B ^ (k + 1) * 1 ≤ B ^ (k + 1) * c := Nat.mul_le_mul_left _ hc
    have h5 : B ^ (k + 1) = 4294967296 * B ^ k := by rw [Nat.pow_succ, Nat.mul_comm]
    omega
/-- A difference, one limb more. -/
theorem sub_step (a b o : List Nat) (i c v w : Nat) (ho : o.length = i) (h' : val o + val (b.take i) = val (a.take i) + B ^ i * c) (hv : v + b.getD i 0 + c = a.getD i 0 + 4294967296 * w) :
    val (o ++ [v]) + val (b.take (i + 1)) = val (a.take (i + 1)) + B ^ (i + 1) * w := by
  rw [val_snoc, ho, pow_take, pow_take]
  generalize a.getD i 0 = x at *
  generalize b.getD i 0 = y at *
  have e : B ^ i * v + B ^ i * y + B ^ i * c = B ^ i * x + B ^ (i + 1) * w := by
    rw [Nat.pow_succ, Nat.mul_assoc, ← Nat.mul_add, ← Nat.mul_add, ← Nat.mul_add, hv]
  omega
theorem sub_end (a b o : List Nat) (i c : Nat) (ha : a.length ≤ i) (hb : b.length ≤ i) (ho : Limbs o) (hi : o.length = i) (hle : val b ≤ val a) (h : val o + val (b.take i) = val (a.take i) + B ^ i * c) : val o = val a - val b := by
  rw [List.take_of_length_le ha, List.take_of_length_le hb] at h
  have h1 := val_lt o ho
  rw [hi] at h1
  rcases Nat.eq_zero_or_pos c with rfl | hc
  · rw [Nat.mul_zero, Nat.add_zero] at h; omega
  · exfalso
    have : B ^ i * 1 ≤ B ^ i * c := Nat.mul_le_mul_left _ hc
    omega
end Go.Ab

/- How many bits a number has: plain arithmetic. -/
namespace Go.Ab
theorem blen_0 : blen 0 = 0 := rfl
theorem blen_of (v k : Nat) (h : 2 ^ k ≤ v) (h' : v < 2 ^ (k + 1)) : blen v = k + 1 := by
  have h0 : v ≠ 0 := by have := Nat.two_pow_pos k; omega
  rw [blen, if_neg h0, (Nat.log2_eq_iff h0).mpr ⟨h, h'⟩]
theorem blen_is (v : Nat) (h : v ≠ 0) : ∃ k, blen v = k + 1 ∧ 2 ^ k ≤ v ∧ v < 2 ^ (k + 1) := by
  have := (Nat.log2_eq_iff (k := Nat.log2 v) h).mp rfl
  exact ⟨Nat.log2 v, by rw [blen, if_neg h], this.1, this.2⟩
theorem blen_pos (v : Nat) (h : v ≠ 0) : 0 < blen v := by
  obtain ⟨k, h1, _⟩ := blen_is v h; omega
theorem blen_eq0 (v : Nat) : blen v = 0 ↔ v = 0 := by
  constructor
  · intro h
    rcases Nat.eq_zero_or_pos v with h1 | h1
    · exact h1
    · have := blen_pos v (by omega); omega
  · intro h; subst h; rfl
theorem lt_blen (v : Nat) : v < 2 ^ blen v := by
  by_cases h : v = 0
  · subst h; decide
  · obtain ⟨k, h1, _, h3⟩ := blen_is v h; rw [h1]; exact h3
theorem blen_le (v k : Nat) (h : v < 2 ^ k) : blen v ≤ k := by
  by_cases h0 : v = 0
  · subst h0; exact Nat.zero_le _
  · obtain ⟨j, h1, h2, _⟩ := blen_is v h0
    rw [h1]
    exact (Nat.pow_lt_pow_iff_right (by decide)).mp (Nat.lt_of_le_of_lt h2 h)
/-- A number below, and one above. -/
theorem blen_up (v r k : Nat) (h : v ≠ 0) (hr : r < 2 ^ k) : blen (r + 2 ^ k * v) = blen v + k := by
  obtain ⟨j, h1, h2, h3⟩ := blen_is v h
  rw [h1, show j + 1 + k = (k + j) + 1 by omega]
  apply blen_of
  · rw [Nat.pow_add]
    have := Nat.mul_le_mul_left (2 ^ k) h2
    omega
  · rw [show k + j + 1 = k + (j + 1) by omega, Nat.pow_add]
    have := Nat.mul_le_mul_left (2 ^ k) (show v + 1 ≤ 2 ^ (j + 1) by omega)
    rw [Nat.mul_add, Nat.mul_one] at this
    omega
theorem blen_down (v k : Nat) (h : 2 ^ k ≤ v) : blen v = blen (v / 2 ^ k) + k := by
  have h0 : v / 2 ^ k ≠ 0 := by
    have := Nat.div_pos h (Nat.two_pow_pos k); omega
  have := blen_up (v / 2 ^ k) (v % 2 ^ k) k h0 (Nat.mod_lt _ (Nat.two_pow_pos k))
  rw [Nat.mod_add_div] at this
  exact this
theorem B_pow (k : Nat) : B ^ k = 2 ^ (32 * k) := by
  rw [Nat.pow_mul]
/-- The bits of a number whose top limb is l[y]. -/
theorem blen_val (l : List Nat) (hl : Limbs l) (y : Nat) (hz : l.getD y 0 ≠ 0) (hv : val (l.take (y + 1)) = val l) : blen (val l) = 32 * y + blen (l.getD y 0) := by
  rw [← hv, val_take_succ', B_pow, blen_up _ _ _ hz (by rw [← B_pow]; exact val_take_lt l hl y)]
  omega
end Go.Ab

/- Shifts by limbs: plain arithmetic. -/
namespace Go.Ab
/-- One limb up by r bits, with what came over from below. -/
theorem shl_or (x c r : Nat) (hc : c < 2 ^ r) : c ||| (x * 2 ^ r) = c + x * 2 ^ r := by
  rw [Nat.or_comm, Nat.mul_comm, ← Nat.two_pow_add_eq_or_of_lt hc, Nat.add_comm]
theorem shl_lt (x c r : Nat) (hx : x < 4294967296) (hr : r < 32) (hc : c < 2 ^ r) : c + x * 2 ^ r < 18446744073709551616 ∧ (c + x * 2 ^ r) / 4294967296 < 2 ^ r := by
  have h1 : 2 ^ r ≤ 2 ^ 31 := Nat.pow_le_pow_right (by decide) (by omega)
  have h2 : (x + 1) * 2 ^ r ≤ 4294967296 * 2 ^ r := Nat.mul_le_mul_right _ hx
  rw [Nat.add_mul, Nat.one_mul] at h2
  have h3 : c + x * 2 ^ r < 4294967296 * 2 ^ r := by omega
  constructor
  · have : (2 : Nat) ^ 31 = 2147483648 := rfl
    omega
  · rw [Nat.div_lt_iff_lt_mul (by decide)]; omega
theorem shl_step (a o : List Nat) (w r i c : Nat) (ho : o.length = w + i) (h : val o + B ^ (w + i) * c = B ^ w * (2 ^ r * val (a.take i))) :
    val (o ++ [(c + a.getD i 0 * 2 ^ r) % 4294967296]) + B ^ (w + (i + 1)) * ((c + a.getD i 0 * 2 ^ r) / 4294967296) = B ^ w * (2 ^ r * val (a.take (i + 1))) := by
  rw [val_snoc, ho, val_take_succ']
  generalize a.getD i 0 = x
  have e : B ^ (w + i) * ((c + x * 2 ^ r) % 4294967296) + B ^ (w + (i + 1)) * ((c + x * 2 ^ r) / 4294967296) = B ^ (w + i) * c + B ^ (w + i) * (x * 2 ^ r) := by
    rw [show w + (i + 1) = (w + i) + 1 by omega, Nat.pow_succ, Nat.mul_assoc, ← Nat.mul_add, ← Nat.mul_add]
    have : (c + x * 2 ^ r) % 4294967296 + B * ((c + x * 2 ^ r) / 4294967296) = c + x * 2 ^ r := Nat.mod_add_div _ _
    rw [this]
  have e2 : B ^ w * (2 ^ r * (val (a.take i) + B ^ i * x)) = B ^ w * (2 ^ r * val (a.take i)) + B ^ (w + i) * (x * 2 ^ r) := by
    rw [Nat.mul_add, Nat.mul_add, Nat.pow_add]
    congr 1
    rw [Nat.mul_assoc]
    congr 1
    rw [Nat.mul_comm (2 ^ r), Nat.mul_assoc]
  omega
theorem shl_end (a o : List Nat) (k r w c : Nat) (hk : k = 32 * w + r) (ho : o.length = w + a.length) (hc : c < 4294967296) (h : val o + B ^ (w + a.length) * c = B ^ w * (2 ^ r * val (a.take a.length))) : val (o ++ [c % 4294967296]) = val a * 2 ^ k := by
  rw [Nat.mod_eq_of_lt hc, val_snoc, ho, h, List.take_length, hk, Nat.pow_add, ← B_pow]
  rw [Nat.mul_comm (val a), Nat.mul_assoc]

/-- The limbs of a number down by r bits. -/
def shrL (r : Nat) : List Nat → List Nat
  | [] => []
  | x :: l => ((x + B * l.getD 0 0) / 2 ^ r % B) :: shrL r l
theorem shrL_len (r : Nat) (l : List Nat) : (shrL r l).length = l.length := by
  induction l with
  | nil => rfl
  | cons x l ih => simp [shrL, ih]
theorem shrL_get (r : Nat) (l : List Nat) (i : Nat) (h : i < l.length) : (shrL r l).getD i 0 = (l.getD i 0 + B * l.getD (i + 1) 0) / 2 ^ r % B := by
  induction l generalizing i with
  | nil => cases h
  | cons x l ih =>
    cases i with
    | zero => rfl
    | succ i =>
      have := ih i (by simpa using h)
      simpa [shrL] using this
theorem shrL_limbs (r : Nat) (l : List Nat) : Limbs (shrL r l) := by
  induction l with
  | nil => exact limbs_nil
  | cons x l ih => exact limbs_cons (Nat.mod_lt _ (by decide)) ih
theorem shr_one (x V p q : Nat) (hpq : p * q = B) (hx : x < B) (hp : 0 < p) : (x + B * V) / p = (x + B * (V % B)) / p % B + B * (V / p) := by
  have hq : 0 < q := Nat.pos_of_ne_zero (fun h => by subst h; simp at hpq)
  have e1 : ∀ W, (x + B * W) / p = x / p + q * W := by
    intro W
    rw [← hpq, Nat.mul_assoc, Nat.add_mul_div_left _ _ hp]
  rw [e1, e1]
  have hxq : x / p < q := by
    rw [Nat.div_lt_iff_lt_mul hp, Nat.mul_comm]; rw [hpq]; exact hx
  have e2 : ∀ W, q * W = B * (W / p) + q * (W % p) := by
    intro W
    rw [← hpq, Nat.mul_comm p q, Nat.mul_assoc, ← Nat.mul_add, Nat.div_add_mod]
  have hmod : V % B % p = V % p := Nat.mod_mod_of_dvd V ⟨q, hpq.symm⟩
  rw [e2 V, e2 (V % B), hmod]
  have hlt : x / p + q * (V % p) < B := by
    have : V % p + 1 ≤ p := Nat.mod_lt _ hp
    have h2 : q * (V % p + 1) ≤ q * p := Nat.mul_le_mul_left _ this
    rw [Nat.mul_add, Nat.mul_one, Nat.mul_comm q p, hpq] at h2
    omega
  have e3 : (x / p + (B * (V % B / p) + q * (V % p))) % B = x / p + q * (V % p) := by
    rw [show x / p + (B * (V % B / p) + q * (V % p)) = (x / p + q * (V % p)) + B * (V % B / p) by omega, Nat.add_mul_mod_self_left, Nat.mod_eq_of_lt hlt]
  rw [e3]; omega
theorem val_mod (l : List Nat) (h : Limbs l) : val l % B = l.getD 0 0 := by
  cases l with
  | nil => rfl
  | cons x l =>
    show (x + B * val l) % B = x
    rw [Nat.add_mul_mod_self_left, Nat.mod_eq_of_lt h.head]
theorem shrL_val (r : Nat) (hr : r < 32) (l : List Nat) (h : Limbs l) : val (shrL r l) = val l / 2 ^ r := by
  have hpq : 2 ^ r * 2 ^ (32 - r) = B := by rw [← Nat.pow_add, show r + (32 - r) = 32 by omega]
  induction l with
  | nil => simp [shrL, val]
  | cons x l ih =>
    have := shr_one x (val l) (2 ^ r) (2 ^ (32 - r)) hpq h.head (Nat.two_pow_pos r)
    rw [val_mod l h.tail] at this
    simp only [shrL, val, ih h.tail]
    exact this.symm
theorem val_drop (l : List Nat) (h : Limbs l) (w : Nat) : val (l.drop w) = val l / B ^ w := by
  have h1 : val l = val (l.take w) + B ^ (l.take w).length * val (l.drop w) := by
    rw [← val_app, List.take_append_drop]
  by_cases hw : w ≤ l.length
  · rw [show (l.take w).length = w by rw [List.length_take]; omega] at h1
    rw [h1, Nat.add_mul_div_left _ _ (Nat.pow_pos (by decide)), Nat.div_eq_of_lt (val_take_lt l h w), Nat.zero_add]
  · rw [List.drop_of_length_le (by omega)]
    have h2 := val_lt l h
    have h3 : B ^ l.length ≤ B ^ w := Nat.pow_le_pow_right (by decide) (by omega)
    rw [Nat.div_eq_of_lt (by omega)]; rfl
theorem shr_end (l : List Nat) (h : Limbs l) (k : Nat) : val (shrL (k % 32) (l.drop (k / 32))) = val l / 2 ^ k := by
  rw [shrL_val _ (Nat.mod_lt _ (by decide)) _ (h.drop _), val_drop l h, Nat.div_div_eq_div_mul, B_pow, ← Nat.pow_add, Nat.div_add_mod]
theorem shr_none (l : List Nat) (h : Limbs l) (k : Nat) (hk : l.length ≤ k / 32) : val l / 2 ^ k = 0 := by
  have h2 := val_lt l h
  rw [B_pow] at h2
  have h3 : 2 ^ (32 * l.length) ≤ 2 ^ k := Nat.pow_le_pow_right (by decide) (by omega)
  exact Nat.div_eq_of_lt (by omega)
/-- One more limb is set. -/
theorem set_next (L : List Nat) (i : Nat) (h : i < L.length) (x : Nat) (hx : x = L.getD i 0) : (L.take i ++ List.replicate (L.length - i) 0).set i x = L.take (i + 1) ++ List.replicate (L.length - (i + 1)) 0 := by
  have hl : (L.take i).length = i := by rw [List.length_take]; omega
  rw [List.set_append_right _ _ (by omega), hl, Nat.sub_self]
  obtain ⟨m, hm⟩ : ∃ m, L.length - i = m + 1 := ⟨L.length - i - 1, by omega⟩
  rw [hm, List.replicate_succ, List.set_cons_zero, show L.length - (i + 1) = m by omega, List.take_succ_eq_append_getElem h]
  subst hx
  simp only [List.getD_eq_getElem?_getD, List.getElem?_eq_getElem h, Option.getD_some, List.append_assoc, List.cons_append, List.nil_append]
end Go.Ab

/- Products limb by limb: plain arithmetic. -/
namespace Go.Ab
theorem val_set (o : List Nat) (j v : Nat) (h : j < o.length) : val (o.set j v) + B ^ j * o.getD j 0 = val o + B ^ j * v := by
  induction o generalizing j with
  | nil => cases h
  | cons x o ih =>
    cases j with
    | zero => simp [val]; omega
    | succ j =>
      have := ih j (by simpa using h)
      have e : ∀ w, B ^ (j + 1) * w = B * (B ^ j * w) := fun w => by rw [Nat.pow_succ, Nat.mul_comm (B ^ j) B, Nat.mul_assoc]
      simp only [List.set_cons_succ, val, List.getD_cons_succ, e]
      rw [Nat.add_assoc, ← Nat.mul_add, this, Nat.mul_add, ← Nat.add_assoc]
theorem limbs_set (o : List Nat) (h : Limbs o) (j v : Nat) (hv : v < B) : Limbs (o.set j v) := by
  intro x hx
  rcases List.mem_or_eq_of_mem_set hx with h' | rfl
  · exact h x h'
  · exact hv
theorem digit (o : List Nat) (h : Limbs o) (j : Nat) : val o / B ^ j % B = o.getD j 0 := by
  rw [← val_drop o h, val_mod _ (h.drop j), List.getD_eq_getElem?_getD, List.getD_eq_getElem?_getD, List.getElem?_drop, Nat.add_zero]
theorem digit_0 (o : List Nat) (h : Limbs o) (j : Nat) (hv : val o < B ^ j) : o.getD j 0 = 0 := by
  rw [← digit o h j, Nat.div_eq_of_lt hv, Nat.zero_mod]
theorem mul_lt (a b : List Nat) (ha : Limbs a) (hb : Limbs b) (i : Nat) : val (a.take i) * val b < B ^ (i + b.length) := by
  rw [Nat.pow_add]
  have h1 := val_take_lt a ha i
  have h2 := val_lt b hb
  exact Nat.mul_lt_mul'' h1 h2
theorem mul_big (x y c w : Nat) (hx : x < 4294967296) (hy : y < 4294967296) (hc : c < 4294967296) (hw : w < 4294967296) : x * y < 18446744073709551616 ∧ x * y + w < 18446744073709551616 ∧ c + (x * y + w) < 18446744073709551616 := by
  have h : x * y ≤ 4294967295 * 4294967295 := Nat.mul_le_mul (by omega) (by omega)
  generalize x * y = p at *
  omega
theorem mul_step (_a b o o' : List Nat) (i k c x : Nat) (hk : i + k < o'.length) (h : val o' + B ^ (i + k) * c = val o + B ^ i * (x * val (b.take k))) :
    val (o'.set (i + k) ((c + (x * b.getD k 0 + o'.getD (i + k) 0)) % 4294967296)) + B ^ (i + (k + 1)) * ((c + (x * b.getD k 0 + o'.getD (i + k) 0)) / 4294967296) = val o + B ^ i * (x * val (b.take (k + 1))) := by
  have h1 := val_set o' (i + k) ((c + (x * b.getD k 0 + o'.getD (i + k) 0)) % 4294967296) hk
  rw [val_take_succ']
  generalize b.getD k 0 = y at *
  generalize o'.getD (i + k) 0 = w at *
  have e : B ^ (i + k) * ((c + (x * y + w)) % 4294967296) + B ^ (i + (k + 1)) * ((c + (x * y + w)) / 4294967296) = B ^ (i + k) * c + B ^ (i + k) * (x * y) + B ^ (i + k) * w := by
    rw [show i + (k + 1) = (i + k) + 1 by omega, Nat.pow_succ, Nat.mul_assoc, ← Nat.mul_add]
    have : (c + (x * y + w)) % 4294967296 + B * ((c + (x * y + w)) / 4294967296) = c + (x * y + w) := Nat.mod_add_div _ _
    rw [this, Nat.mul_add, Nat.mul_add]; omega
  have e2 : B ^ i * (x * (val (b.take k) + B ^ k * y)) = B ^ i * (x * val (b.take k)) + B ^ (i + k) * (x * y) := by
    rw [Nat.mul_add, Nat.mul_add, Nat.pow_add, Nat.mul_assoc]
    congr 2
    rw [← Nat.mul_assoc, ← Nat.mul_assoc, Nat.mul_comm x]
  omega
theorem mul_end (a b o o' : List Nat) (i c x : Nat) (hx : x = a.getD i 0) (hk : i + b.length < o'.length) (hz : o'.getD (i + b.length) 0 = 0) (ho : val o = val (a.take i) * val b) (h : val o' + B ^ (i + b.length) * c = val o + B ^ i * (x * val (b.take b.length))) (hc : c < 4294967296) :
    val (o'.set (i + b.length) (c % 4294967296)) = val (a.take (i + 1)) * val b := by
  have h1 := val_set o' (i + b.length) (c % 4294967296) hk
  rw [hz, Nat.mul_zero, Nat.add_zero, Nat.mod_eq_of_lt hc, h, ho, List.take_length] at h1
  rw [Nat.mod_eq_of_lt hc, h1, val_take_succ', Nat.add_mul, hx, Nat.mul_assoc]
theorem mul_skip (a b o : List Nat) (i : Nat) (hx : a.getD i 0 = 0) (ho : val o = val (a.take i) * val b) : val o = val (a.take (i + 1)) * val b := by
  rw [val_take_succ', hx, Nat.mul_zero, Nat.add_zero, ho]
theorem getD_set_ne (o : List Nat) (i j v : Nat) (h : i ≠ j) : (o.set i v).getD j 0 = o.getD j 0 := by
  rw [List.getD_eq_getElem?_getD, List.getD_eq_getElem?_getD, List.getElem?_set_ne h]
end Go.Ab

/- Quotients bit by bit: plain arithmetic. -/
namespace Go.Ab
theorem pow1 (k : Nat) : 2 ^ (k + 1) = 2 * 2 ^ k := by rw [Nat.pow_succ, Nat.mul_comm]
theorem div_pow1 (A k : Nat) : A / 2 ^ k = 2 * (A / 2 ^ (k + 1)) + A / 2 ^ k % 2 := by
  rw [pow1, Nat.mul_comm 2 (2 ^ k), ← Nat.div_div_eq_div_mul]
  omega
/-- A bit of a number is a bit of one of its limbs. -/
theorem bit_limb (l : List Nat) (h : Limbs l) (i : Nat) : l.getD (i / 32) 0 / 2 ^ (i % 32) % 2 = val l / 2 ^ i % 2 := by
  rw [← digit l h, B_pow]
  have e : val l / 2 ^ i = val l / 2 ^ (32 * (i / 32)) / 2 ^ (i % 32) := by
    rw [Nat.div_div_eq_div_mul, ← Nat.pow_add, Nat.div_add_mod]
  rw [e]
  generalize val l / 2 ^ (32 * (i / 32)) = V
  have hr : i % 32 < 32 := Nat.mod_lt _ (by decide)
  generalize i % 32 = r at *
  have hB : B = 2 ^ r * (2 * 2 ^ (31 - r)) := by
    rw [← pow1, ← Nat.pow_add, show r + (31 - r + 1) = 32 by omega]
  have h1 : V % B / 2 ^ r = V / 2 ^ r % (2 * 2 ^ (31 - r)) := by
    rw [hB, Nat.mod_mul_right_div_self]
  rw [h1, Nat.mod_mul_right_mod]
theorem getD_lt' (l : List Nat) (hl : Limbs l) (i : Nat) : l.getD i 0 < 4294967296 := by
  by_cases h : i < l.length
  · rw [List.getD_eq_getElem?_getD, List.getElem?_eq_getElem h]
    exact hl _ (List.getElem_mem h)
  · rw [List.getD_eq_getElem?_getD, List.getElem?_eq_none (by omega)]; decide
theorem or_bit (o : List Nat) (h : Limbs o) (i Q : Nat) (hv : val o = Q * 2 ^ (i + 1)) : (o.getD (i / 32) 0 ||| 2 ^ (i % 32)) = o.getD (i / 32) 0 + 2 ^ (i % 32) ∧ (o.getD (i / 32) 0 ||| 2 ^ (i % 32)) < 4294967296 := by
  have hr : i % 32 < 32 := Nat.mod_lt _ (by decide)
  constructor
  · have hd := digit o h (i / 32)
    have hi : i + 1 = 32 * (i / 32) + (i % 32 + 1) := by omega
    rw [hv, hi, Nat.pow_add, ← B_pow, Nat.mul_comm (B ^ (i / 32)), ← Nat.mul_assoc, Nat.mul_div_cancel _ (Nat.pow_pos (by decide))] at hd
    have hB : B = 2 ^ (i % 32 + 1) * 2 ^ (31 - i % 32) := by rw [← Nat.pow_add, show i % 32 + 1 + (31 - i % 32) = 32 by omega]
    rw [hB, Nat.mul_comm Q, Nat.mul_mod_mul_left] at hd
    rw [← hd, ← Nat.two_pow_add_eq_or_of_lt (Nat.pow_lt_pow_right (by decide) (Nat.lt_succ_self _))]
  · refine Nat.or_lt_two_pow (n := 32) ?_ (Nat.pow_lt_pow_right (by decide) hr)
    have := getD_lt' o h (i / 32)
    exact this
theorem div_set (o : List Nat) (h : Limbs o) (i Q : Nat) (hi : i / 32 < o.length) (hv : val o = Q * 2 ^ (i + 1)) : val (o.set (i / 32) (o.getD (i / 32) 0 ||| 2 ^ (i % 32))) = (2 * Q + 1) * 2 ^ i := by
  have h1 := val_set o (i / 32) (o.getD (i / 32) 0 ||| 2 ^ (i % 32)) hi
  rw [(or_bit o h i Q hv).1, Nat.mul_add, hv, B_pow, ← Nat.pow_add, Nat.div_add_mod] at h1
  rw [(or_bit o h i Q hv).1, Nat.add_mul, Nat.one_mul]
  have h2 : Q * 2 ^ (i + 1) = 2 * Q * 2 ^ i := by rw [pow1, Nat.mul_comm 2 Q, Nat.mul_assoc]
  omega
end Go.Ab

/- More plain arithmetic of the limb statements. -/
namespace Go.Ab
/-- Any number as one from 0 to n - 1. -/
def placeN (v n : Int) : Int := if v.tmod n < 0 then v.tmod n + n else v.tmod n
theorem place_range (v n : Int) (hn : 0 < n) : 0 ≤ placeN v n ∧ placeN v n < n := by
  have h1 := Int.tmod_lt_of_pos v hn
  have h2 : -n < v.tmod n := by
    have := Int.lt_tmod_of_pos v hn
    omega
  unfold placeN
  split <;> omega
theorem cmpZ_flip (x y : Nat) : cmpZ y x = - cmpZ x y := by
  unfold cmpZ
  by_cases h : x < y
  · have : ¬ y < x := by omega
    simp [h, this]
  · by_cases g : y < x
    · simp [h, g]
    · simp [h, g]
theorem cmpZ_add (x y z : Nat) : cmpZ (x + z) (y + z) = cmpZ x y := by
  unfold cmpZ
  simp only [Nat.add_lt_add_iff_right]
theorem cmpZ_range (x y : Nat) : -1 ≤ cmpZ x y ∧ cmpZ x y ≤ 1 := by
  unfold cmpZ
  split
  · omega
  · split <;> omega
theorem val_zeros (l : List Nat) (k : Nat) : val (l ++ List.replicate k 0) = val l := by
  rw [val_app, val_rep, Nat.mul_zero, Nat.add_zero]
theorem blen_shl (v k : Nat) (h : v ≠ 0) : blen (v * 2 ^ k) = blen v + k := by
  have := blen_up v 0 k h (Nat.two_pow_pos k)
  rwa [Nat.zero_add, Nat.mul_comm] at this
theorem blen_top (v : Nat) (h : v ≠ 0) : blen (v / 2 ^ (blen v - 1)) = 1 := by
  obtain ⟨k, h1, h2, _⟩ := blen_is v h
  have := blen_down v k h2
  rw [h1, Nat.add_sub_cancel]
  omega
theorem blen_gone (v : Nat) : v / 2 ^ blen v = 0 := Nat.div_eq_of_lt (lt_blen v)
theorem pow_div_lt (a b : Nat) (h : a < b) : 2 ^ a / 2 ^ b = 0 ∧ 2 ^ a % 2 ^ b = 2 ^ a := by
  have := Nat.pow_lt_pow_right (a := 2) (by decide) h
  exact ⟨Nat.div_eq_of_lt this, Nat.mod_eq_of_lt this⟩
theorem pow_div_ge (a b : Nat) (h : b ≤ a) : 2 ^ a / 2 ^ b = 2 ^ (a - b) ∧ 2 ^ a % 2 ^ b = 0 := by
  have e : 2 ^ a = 2 ^ b * 2 ^ (a - b) := by rw [← Nat.pow_add, show b + (a - b) = a by omega]
  have h0 := Nat.two_pow_pos b
  constructor
  · rw [e, Nat.mul_div_cancel_left _ h0]
  · rw [e, Nat.mul_mod_right]
theorem blen_pow_pred (a : Nat) : blen (2 ^ a - 1) = a := by
  cases a with
  | zero => rfl
  | succ a =>
    have h0 := Nat.two_pow_pos a
    apply blen_of
    · rw [pow1]; omega
    · rw [pow1]; omega
end Go.Ab

/- Numbers with a sign: plain arithmetic. No conditions but those told. -/
namespace Go.Ab
/-- May a number of a sign and limbs be? -/
def chkN (neg : Bool) (l : List Nat) : Bool := decide (l.length ≤ 12) && (decide (l.length = 0) && !neg || decide (0 < l.length) && decide (l.getD (l.length - 1) 0 ≠ 0))
/-- The number that is shown; 0 where none is. -/
def numZ (neg : Bool) (l : List Nat) : Int := if chkN neg l = true then (if neg = true then -((val l : Nat) : Int) else ((val l : Nat) : Int)) else 0
/-- A number, if it has room. -/
def mkZ (z : Int) : Int × Bool := if z.natAbs < B ^ 12 then (z, true) else (0, false)
theorem mkZ_fit {z : Int} (h : z.natAbs < B ^ 12) : mkZ z = (z, true) := if_pos h
theorem mkZ_not {z : Int} (h : ¬ z.natAbs < B ^ 12) : mkZ z = (0, false) := if_neg h
theorem mkZ_lt (z : Int) : (mkZ z).1.natAbs < B ^ 12 := by
  unfold mkZ; split
  · assumption
  · exact Nat.pow_pos (by decide)
theorem getLast_getD (l : List Nat) (h : 0 < l.length) : l.getLast? = some (l.getD (l.length - 1) 0) := by
  rw [List.getLast?_eq_getElem?, List.getD_eq_getElem?_getD, List.getElem?_eq_getElem (by omega)]; rfl
theorem digs_last (v : Nat) (h : 0 < (digs v).length) : (digs v).getD ((digs v).length - 1) 0 ≠ 0 := by
  induction v using Nat.strongRecOn with
  | ind v ih =>
    by_cases hv : v = 0
    · subst hv; rw [digs_0] at h; simp at h
    · rw [digs_pos v hv]
      by_cases hq : v / B = 0
      · rw [hq, digs_0]
        have : v % B = v := Nat.mod_eq_of_lt (by
          have := Nat.div_add_mod v B; have := Nat.mod_lt v (show 0 < B by decide); rw [hq] at *; omega)
        simpa [this] using hv
      · have hl : 0 < (digs (v / B)).length := by
          rw [digs_pos _ hq]; simp
        have := ih (v / B) (Nat.div_lt_self (by omega) (by decide)) hl
        rw [List.length_cons, show (digs (v / B)).length + 1 - 1 = ((digs (v / B)).length - 1) + 1 by omega, List.getD_cons_succ]
        exact this
theorem digs_len_le (v k : Nat) : (digs v).length ≤ k ↔ v < B ^ k := by
  constructor
  · intro h
    have := val_lt (digs v) (limbs_digs v)
    rw [val_digs] at this
    exact Nat.lt_of_lt_of_le this (Nat.pow_le_pow_right (by decide) h)
  · exact digs_len v k
theorem chk_digs (neg : Bool) (v : Nat) (h : v = 0 → neg = false) : chkN neg (digs v) = decide (v < B ^ 12) := by
  unfold chkN
  by_cases hv : v = 0
  · subst hv
    rw [digs_0, h rfl]
    have : 0 < B ^ 12 := Nat.pow_pos (by decide)
    simp [this]
  · have hp : 0 < (digs v).length := by rw [digs_pos v hv]; simp
    have hl := digs_last v hp
    have h12 : decide ((digs v).length ≤ 12) = decide (v < B ^ 12) := by
      rw [Bool.eq_iff_iff]; simp only [decide_eq_true_eq]; exact digs_len_le v 12
    rw [h12]
    have h1 : decide (0 < (digs v).length) = true := decide_eq_true hp
    have h2 : decide ((digs v).getD ((digs v).length - 1) 0 ≠ 0) = true := decide_eq_true hl
    rw [h1, h2]
    simp
/-- What may be is its digits. -/
theorem chk_val {neg : Bool} {l : List Nat} (hl : Limbs l) (h : chkN neg l = true) : digs (val l) = l ∧ val l < B ^ 12 ∧ l.length ≤ 12 ∧ (val l = 0 → l = [] ∧ neg = false) := by
  unfold chkN at h
  simp only [Bool.and_eq_true, Bool.or_eq_true, decide_eq_true_eq, Bool.not_eq_true'] at h
  obtain ⟨h12, h⟩ := h
  have hd : digs (val l) = l := by
    refine digs_val l hl fun x hx => ?_
    rcases h with ⟨h0, _⟩ | ⟨h0, h1⟩
    · have : l = [] := List.length_eq_zero_iff.mp h0
      subst this; cases hx
    · rw [getLast_getD l h0] at hx
      cases hx
      exact h1
  refine ⟨hd, Nat.lt_of_lt_of_le (val_lt l hl) (Nat.pow_le_pow_right (by decide) h12), h12, fun h0 => ?_⟩
  rw [h0, digs_0] at hd
  subst hd
  rcases h with ⟨_, h1⟩ | ⟨h1, _⟩
  · exact ⟨rfl, h1⟩
  · simp at h1
theorem numZ_not {neg : Bool} {l : List Nat} (h : chkN neg l = false) : numZ neg l = 0 := by simp [numZ, h]
theorem numZ_is {neg : Bool} {l : List Nat} (hl : Limbs l) (h : chkN neg l = true) : (numZ neg l).natAbs = val l ∧ decide (numZ neg l < 0) = neg ∧ digs (numZ neg l).natAbs = l := by
  obtain ⟨hd, _, _, h0⟩ := chk_val hl h
  have e : numZ neg l = if neg = true then -((val l : Nat) : Int) else ((val l : Nat) : Int) := if_pos h
  cases neg with
  | false =>
    simp only [Bool.false_eq_true, if_false] at e
    have : (numZ false l).natAbs = val l := by rw [e]; simp
    refine ⟨this, ?_, by rw [this]; exact hd⟩
    rw [e, decide_eq_false_iff_not]; omega
  | true =>
    simp only [if_true] at e
    have hn : val l ≠ 0 := fun h => by have := (h0 h).2; simp at this
    have : (numZ true l).natAbs = val l := by rw [e]; omega
    refine ⟨this, ?_, by rw [this]; exact hd⟩
    rw [e, decide_eq_true_eq]; omega
theorem numZ_lt (neg : Bool) (l : List Nat) (hl : Limbs l) : (numZ neg l).natAbs < B ^ 12 := by
  cases h : chkN neg l with
  | false => rw [numZ_not h]; exact Nat.pow_pos (by decide)
  | true => rw [(numZ_is hl h).1]; exact (chk_val hl h).2.1
/-- The compare of two numbers with signs. -/
def cmpI (a b : Int) : Int := if a < b then -1 else if b < a then 1 else 0
theorem cmpI_nat (x y : Nat) : cmpI x y = cmpZ x y := by
  unfold cmpI cmpZ
  simp only [Int.ofNat_lt]
/-- A sign and a size. -/
def sgn (neg : Bool) (v : Nat) : Int := if neg = true then -(v : Int) else (v : Int)
theorem sgn_abs (neg : Bool) (v : Nat) : (sgn neg v).natAbs = v := by
  unfold sgn; split <;> simp
theorem sgn_neg (neg : Bool) (v : Nat) : decide (sgn neg v < 0) = (neg && decide (v ≠ 0)) := by
  cases neg with
  | false =>
    simp only [sgn, Bool.false_eq_true, if_false, Bool.false_and, decide_eq_false_iff_not]; omega
  | true =>
    simp only [sgn, if_true, Bool.true_and]
    by_cases h : v = 0
    · subst h; decide
    · rw [decide_eq_true (show (-(v : Int) < 0) by omega), decide_eq_true h]
theorem sgn_of (z : Int) : sgn (decide (z < 0)) z.natAbs = z := by
  unfold sgn
  by_cases h : z < 0
  · simp [h]; omega
  · simp [h]; omega
end Go.Ab

/- Shifts of numbers with signs: plain arithmetic. -/
namespace Go.Ab
/-- A number times two so often; below 0: by two, downwards. -/
def shZ (z k : Int) : Int := if 0 ≤ k then z * 2 ^ k.toNat else z.fdiv (2 ^ (-k).toNat)
theorem shZ_0 (k : Int) : shZ 0 k = 0 := by
  unfold shZ; split <;> simp
theorem shZ_down (z : Int) (N : Nat) : shZ z (-(N : Int)) = z.fdiv (2 ^ N) := by
  unfold shZ
  split
  · have : N = 0 := by omega
    subst this; simp
  · rw [Int.neg_neg, Int.toNat_natCast]
theorem shZ_up (z : Int) (N : Nat) : shZ z (N : Int) = z * 2 ^ N := by
  unfold shZ
  rw [if_pos (by omega), Int.toNat_natCast]
theorem fdiv_neg_pow (x : Nat) (hx : 0 < x) (N : Nat) : (-(x : Int)).fdiv (2 ^ N) = -(((x - 1) / 2 ^ N + 1 : Nat) : Int) := by
  obtain ⟨y, rfl⟩ : ∃ y, x = y + 1 := ⟨x - 1, by omega⟩
  have e : ((2 : Int) ^ N) = ((2 ^ N : Nat) : Int) := by simp
  have hp : 0 < 2 ^ N := Nat.two_pow_pos N
  rw [e, Int.fdiv_eq_ediv_of_nonneg _ (by omega)]
  generalize 2 ^ N = p at *
  rw [Nat.add_sub_cancel]
  have h := Nat.div_add_mod y p
  have hm := Nat.mod_lt y hp
  generalize y / p = q at *
  generalize y % p = r at *
  subst h
  have e1 : -((p * q + r + 1 : Nat) : Int) = -((q : Int) + 1) * (p : Int) + ((p : Int) - 1 - r) := by
    push_cast
    rw [Int.neg_mul, Int.add_mul, Int.one_mul, Int.mul_comm (p : Int)]
    omega
  rw [e1, Int.add_comm, Int.add_mul_ediv_right _ _ (by omega), Int.ediv_eq_zero_of_lt (by omega) (by omega)]
  omega
theorem fdiv_pos_pow (x : Nat) (N : Nat) : (x : Int).fdiv (2 ^ N) = ((x / 2 ^ N : Nat) : Int) := by
  have e : ((2 : Int) ^ N) = ((2 ^ N : Nat) : Int) := by simp
  rw [e, Int.fdiv_eq_ediv_of_nonneg _ (Int.natCast_nonneg _)]; rfl
theorem down_neg (z : Int) (N : Nat) (h : z < 0) : sgn true ((z.natAbs - 1) / 2 ^ N + 1) = shZ z (-(N : Int)) := by
  rw [shZ_down]
  have h1 : z = -(z.natAbs : Int) := by omega
  generalize hx : z.natAbs = x at *
  subst h1
  rw [fdiv_neg_pow x (by omega)]; rfl
theorem down_pos (z : Int) (N : Nat) (h : ¬ z < 0) : sgn false (z.natAbs / 2 ^ N) = shZ z (-(N : Int)) := by
  rw [shZ_down]
  have h1 : z = (z.natAbs : Int) := by omega
  generalize hx : z.natAbs = x at *
  subst h1
  rw [fdiv_pos_pow]; rfl
theorem up_sgn (z : Int) (N : Nat) : sgn (decide (z < 0)) (z.natAbs * 2 ^ N) = shZ z (N : Int) := by
  rw [shZ_up]
  have e : ((2 : Int) ^ N) = ((2 ^ N : Nat) : Int) := by simp
  rw [e]
  generalize 2 ^ N = p
  unfold sgn
  by_cases h : z < 0
  · rw [decide_eq_true h, if_pos rfl]
    have h1 : z = -(z.natAbs : Int) := by omega
    generalize z.natAbs = x at *
    subst h1
    rw [Int.neg_mul]; simp
  · rw [decide_eq_false h, if_neg (by decide)]
    have h1 : z = (z.natAbs : Int) := by omega
    generalize z.natAbs = x at *
    subst h1
    simp
theorem B_le (k N : Nat) (h : 32 * k ≤ N) : B ^ k ≤ 2 ^ N := by rw [B_pow]; exact Nat.pow_le_pow_right (by decide) h
theorem le_B (k N : Nat) (h : N ≤ 32 * k) : 2 ^ N ≤ B ^ k := by rw [B_pow]; exact Nat.pow_le_pow_right (by decide) h
theorem lt_B (k N : Nat) (h : N < 32 * k) : 2 ^ N < B ^ k := by rw [B_pow]; exact Nat.pow_lt_pow_right (by decide) h
theorem far_down0 (z : Int) (N : Nat) (h : z.natAbs < B ^ 12) (hN : 10000 < N) : shZ z (-(N : Int)) = if z < 0 then -1 else 0 := by
  have hp : B ^ 12 ≤ 2 ^ N := B_le 12 N (by omega)
  by_cases hz : z < 0
  · rw [if_pos hz, ← down_neg z N hz, Nat.div_eq_of_lt (by omega)]; rfl
  · rw [if_neg hz, ← down_pos z N hz, Nat.div_eq_of_lt (by omega)]; rfl
theorem far_up0 (z : Int) (N : Nat) (h0 : z ≠ 0) (hN : 384 < N) : ¬ (shZ z (N : Int)).natAbs < B ^ 12 := by
  have hp : B ^ 12 ≤ 2 ^ N := B_le 12 N (by omega)
  rw [← up_sgn, sgn_abs]
  have : 1 * 2 ^ N ≤ z.natAbs * 2 ^ N := Nat.mul_le_mul_right _ (by omega)
  omega
end Go.Ab
