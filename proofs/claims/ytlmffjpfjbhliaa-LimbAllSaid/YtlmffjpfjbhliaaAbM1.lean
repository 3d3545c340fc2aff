/- Numbers as lists of limbs: plain arithmetic, no program in sight. -/
namespace Go.Ab
abbrev B : Nat := 4294967296
def Limbs (l : List Nat) : Prop := ∀ x ∈ l, x < 4294967296
def val : List Nat → Nat
  | [] => 0
  | x :: r => x + B * val r
def digs (v : Nat) : List Nat := if _h : v = 0 then [] else (v % B) :: digs (v / B)
termination_by v
decreasing_by exact Nat.div_lt_self (by omega) (by decide)
theorem digs_0 : digs 0 = [] := by rw [digs]; simp
theorem digs_pos (v : Nat) (h : v ≠ 0) : digs v = (v % B) :: digs (v / B) := by rw [digs]; simp [h]
theorem limbs_nil : Limbs [] := by intro x h; cases h
theorem limbs_cons {x : Nat} {l : List Nat} (h : x < B) (hl : Limbs l) : Limbs (x :: l) := by
  intro y hy
  rcases List.mem_cons.mp hy with rfl | hy
  · exact h
  · exact hl y hy
theorem Limbs.tail {x : Nat} {l : List Nat} (h : Limbs (x :: l)) : Limbs l := fun y hy => h y (List.mem_cons_of_mem _ hy)
theorem Limbs.head {x : Nat} {l : List Nat} (h : Limbs (x :: l)) : x < B := h x (List.mem_cons_self ..)
theorem Limbs.app {l m : List Nat} (h : Limbs l) (h' : Limbs m) : Limbs (l ++ m) := fun x hx => (List.mem_append.mp hx).elim (h x) (h' x)
theorem Limbs.take {l : List Nat} (h : Limbs l) (k : Nat) : Limbs (l.take k) := fun x hx => h x (List.mem_of_mem_take hx)
theorem Limbs.drop {l : List Nat} (h : Limbs l) (k : Nat) : Limbs (l.drop k) := fun x hx => h x (List.mem_of_mem_drop hx)
theorem limbs_one {x : Nat} (h : x < B) : Limbs [x] := limbs_cons h limbs_nil
theorem limbs_digs (v : Nat) : Limbs (digs v) := by
  induction v using Nat.strongRecOn with
  | _ v ih =>
    by_cases h : v = 0
    · subst h; rw [digs_0]; exact limbs_nil
    · rw [digs_pos v h]
      exact limbs_cons (Nat.mod_lt _ (by decide)) (ih _ (Nat.div_lt_self (by omega) (by decide)))
theorem val_digs (v : Nat) : val (digs v) = v := by
  induction v using Nat.strongRecOn with
  | _ v ih =>
    by_cases h : v = 0
    · subst h; rw [digs_0]; rfl
    · rw [digs_pos v h, val, ih _ (Nat.div_lt_self (by omega) (by decide))]
      exact Nat.mod_add_div v B
theorem val_app (l m : List Nat) : val (l ++ m) = val l + B ^ l.length * val m := by
  induction l with
  | nil => simp [val]
  | cons x l ih =>
    simp only [List.cons_append, val, ih, List.length_cons, Nat.pow_succ]
    rw [Nat.mul_add, Nat.add_assoc, Nat.mul_comm (B ^ l.length) B, Nat.mul_assoc]
theorem val_lt (l : List Nat) (h : Limbs l) : val l < B ^ l.length := by
  induction l with
  | nil => simp [val]
  | cons x l ih =>
    have h1 := ih h.tail
    have h2 := h.head
    simp only [val, List.length_cons, Nat.pow_succ]
    have : B * (val l + 1) ≤ B * B ^ l.length := Nat.mul_le_mul_left _ h1
    rw [Nat.mul_comm (B ^ l.length) B]
    have e : B * (val l + 1) = B * val l + B := by rw [Nat.mul_add, Nat.mul_one]
    omega
theorem digs_val (l : List Nat) (h : Limbs l) (hc : ∀ x, l.getLast? = some x → x ≠ 0) : digs (val l) = l := by
  induction l with
  | nil => exact digs_0
  | cons x l ih =>
    have hx := h.head
    have h2 : (x + B * val l) / B = val l := by
      rw [Nat.add_mul_div_left _ _ (by decide), Nat.div_eq_of_lt hx, Nat.zero_add]
    have h1 : (x + B * val l) % B = x := by
      rw [Nat.add_mul_mod_self_left, Nat.mod_eq_of_lt hx]
    have hne : x + B * val l ≠ 0 := by
      cases l with
      | nil =>
        have := hc x rfl
        omega
      | cons y l =>
        intro h0
        have hv : val (y :: l) = 0 := by
          rcases Nat.eq_zero_or_pos (val (y :: l)) with h | h
          · exact h
          · have : B * 1 ≤ B * val (y :: l) := Nat.mul_le_mul_left _ h
            simp only [B] at *
            omega
        have := ih h.tail (by intro z hz; exact hc z (by simpa [List.getLast?_cons] using hz))
        rw [hv, digs_0] at this
        cases this
    show digs (x + B * val l) = x :: l
    rw [digs_pos _ hne, h1, h2]
    cases l with
    | nil => simp [val, digs_0]
    | cons y l => rw [ih h.tail (by intro z hz; exact hc z (by simpa [List.getLast?_cons] using hz))]
theorem digs_len (v k : Nat) (h : v < B ^ k) : (digs v).length ≤ k := by
  induction k generalizing v with
  | zero => have : v = 0 := by simpa using h
            subst this; rw [digs_0]; simp
  | succ k ih =>
    by_cases h0 : v = 0
    · subst h0; rw [digs_0]; simp
    · rw [digs_pos v h0, List.length_cons]
      have : v / B < B ^ k := by
        rw [Nat.div_lt_iff_lt_mul (by decide)]
        rwa [Nat.pow_succ] at h
      have := ih _ this
      omega
theorem val_rep (k : Nat) : val (List.replicate k 0) = 0 := by
  induction k with
  | zero => rfl
  | succ k ih => simp [List.replicate_succ, val, ih]
theorem val_take_succ (l : List Nat) (k : Nat) (h : k < l.length) : val (l.take (k + 1)) = val (l.take k) + B ^ k * l.getD k 0 := by
  rw [List.take_succ_eq_append_getElem h, val_app]
  simp [val, Nat.min_eq_left (Nat.le_of_lt h), List.getD, List.getElem?_eq_getElem h]
theorem getD_of_ge (l : List Nat) (k : Nat) (h : l.length ≤ k) : l.getD k 0 = 0 := by
  rw [List.getD_eq_getElem?_getD, List.getElem?_eq_none h]; rfl
/-- The first k limbs, 0 where there is none. -/
theorem val_take_succ' (l : List Nat) (k : Nat) : val (l.take (k + 1)) = val (l.take k) + B ^ k * l.getD k 0 := by
  by_cases h : k < l.length
  · exact val_take_succ l k h
  · rw [getD_of_ge l k (by omega), List.take_of_length_le (by omega), List.take_of_length_le (by omega)]
    simp
end Go.Ab
