/- What a tree of values says of a value in a world; it stays true as long as the cells that it leads to stay. No conditions. -/
import Derived.Test.YtaifnpbgamookaaDoorAbE
import Derived.Laws.Cells
namespace Go.Ab

mutual
/-- A tree, in a world of which the cells S stay. -/
def V0 (S : Nat → Nat → Prop) (w : World) : AV → Value → Prop
  | .undef, _ => True
  | .int k n, v => v = .int k n
  | .bool b, v => v = .bool b
  | .str s, v => v = .string ⟨s.toArray⟩
  | .agg xs, v => ∃ vs : List Value, v = .agg vs.toArray ∧ VL S w xs vs
  | .tup xs, v => ∃ vs : List Value, v = .tuple vs.toArray ∧ VT S w xs vs
  | .sl xs len g, v => ∃ a cap, v = .slice a len cap ∧ len ≤ cap ∧ (g = .tight → cap = len) ∧ (g.isTok = false ∧ (g = .nil → a = none)) ∧
      ((xs = [] ∧ len = 0 ∧ cap = 0) ∨ ∃ b o, a = some ⟨b, o, none⟩ ∧ VC S w xs b o)
  | .own .., _ => False
  | .ptr .., _ => False
  | .rptr xs, v => ∃ b o, v = .pointer (some ⟨b, o, none⟩) ∧ VC S w xs b o
  | .nilp, v => v = .pointer none
  | .fn f caps, v => ∃ vs : List Value, v = .func (.func f) #[] vs.toArray ∧ VT S w caps vs
  | .iface t x, v => ∃ u, v = .iface t u ∧ V0 S w x u
  | .nili, v => v = .nilIface
def VL (S : Nat → Nat → Prop) (w : World) : List AV → List Value → Prop
  | [], vs => vs = []
  | x :: xs, vs => ∃ v r, vs = v :: r ∧ v.oneCell' = true ∧ V0 S w x v ∧ VL S w xs r
def VT (S : Nat → Nat → Prop) (w : World) : List AV → List Value → Prop
  | [], vs => vs = []
  | x :: xs, vs => ∃ v r, vs = v :: r ∧ V0 S w x v ∧ VT S w xs r
def VC (S : Nat → Nat → Prop) (w : World) : List AV → Nat → Nat → Prop
  | [], _, _ => True
  | x :: xs, b, o => S b o ∧ (∃ v, w.cell? ⟨b, o, none⟩ = some v ∧ v.oneCell' = true ∧ V0 S w x v) ∧ VC S w xs b (o + 1)
end

section
variable {S S' : Nat → Nat → Prop} {w w' : World}

/-- What stays: the cells of S are cells of S', and hold what they held. -/
def Stays (S : Nat → Nat → Prop) (w : World) (S' : Nat → Nat → Prop) (w' : World) : Prop :=
  ∀ b o, S b o → S' b o ∧ w'.cell? ⟨b, o, none⟩ = w.cell? ⟨b, o, none⟩

theorem Stays.refl (S : Nat → Nat → Prop) (w : World) : Stays S w S w := fun _ _ h => ⟨h, rfl⟩
theorem Stays.trans {S'' : Nat → Nat → Prop} {w'' : World} (h : Stays S w S' w') (k : Stays S' w' S'' w'') : Stays S w S'' w'' :=
  fun b o hs => ⟨(k b o (h b o hs).1).1, (k b o (h b o hs).1).2.trans (h b o hs).2⟩

mutual
theorem V0.mono (h : Stays S w S' w') : ∀ (x : AV) (v : Value), V0 S w x v → V0 S' w' x v
  | .undef, _, _ => by simp only [V0]
  | .int .., _, k => by simpa only [V0] using k
  | .bool _, _, k => by simpa only [V0] using k
  | .str _, _, k => by simpa only [V0] using k
  | .agg xs, v, k => by
    simp only [V0] at k ⊢
    obtain ⟨vs, hv, hl⟩ := k
    exact ⟨vs, hv, VL.mono h xs vs hl⟩
  | .tup xs, v, k => by
    simp only [V0] at k ⊢
    obtain ⟨vs, hv, hl⟩ := k
    exact ⟨vs, hv, VT.mono h xs vs hl⟩
  | .sl xs len g, v, k => by
    simp only [V0] at k ⊢
    obtain ⟨a, cap, hv, hl, hg, hk, hx⟩ := k
    refine ⟨a, cap, hv, hl, hg, hk, ?_⟩
    rcases hx with hx | ⟨b, o, ha, hc⟩
    · exact .inl hx
    · exact .inr ⟨b, o, ha, VC.mono h xs b o hc⟩
  | .own .., _, k => by simp only [V0] at k
  | .ptr .., _, k => by simp only [V0] at k
  | .rptr xs, v, k => by
    simp only [V0] at k ⊢
    obtain ⟨b, o, hv, hc⟩ := k
    exact ⟨b, o, hv, VC.mono h xs b o hc⟩
  | .nilp, _, k => by simpa only [V0] using k
  | .fn f xs, v, k => by
    simp only [V0] at k ⊢
    obtain ⟨vs, hv, hl⟩ := k
    exact ⟨vs, hv, VT.mono h xs vs hl⟩
  | .iface t x, v, k => by
    simp only [V0] at k ⊢
    obtain ⟨u, hv, hl⟩ := k
    exact ⟨u, hv, V0.mono h x u hl⟩
  | .nili, _, k => by simpa only [V0] using k
theorem VL.mono (h : Stays S w S' w') : ∀ (xs : List AV) (vs : List Value), VL S w xs vs → VL S' w' xs vs
  | [], _, k => by simpa only [VL] using k
  | x :: xs, vs, k => by
    simp only [VL] at k ⊢
    obtain ⟨v, r, hv, ho, h0, hr⟩ := k
    exact ⟨v, r, hv, ho, V0.mono h x v h0, VL.mono h xs r hr⟩
theorem VT.mono (h : Stays S w S' w') : ∀ (xs : List AV) (vs : List Value), VT S w xs vs → VT S' w' xs vs
  | [], _, k => by simpa only [VT] using k
  | x :: xs, vs, k => by
    simp only [VT] at k ⊢
    obtain ⟨v, r, hv, h0, hr⟩ := k
    exact ⟨v, r, hv, V0.mono h x v h0, VT.mono h xs r hr⟩
theorem VC.mono (h : Stays S w S' w') : ∀ (xs : List AV) (b o : Nat), VC S w xs b o → VC S' w' xs b o
  | [], _, _, _ => by simp only [VC]
  | x :: xs, b, o, k => by
    simp only [VC] at k ⊢
    obtain ⟨hs, ⟨v, hv, ho, h0⟩, hr⟩ := k
    exact ⟨(h b o hs).1, ⟨v, (h b o hs).2.trans hv, ho, V0.mono h x v h0⟩, VC.mono h xs b (o + 1) hr⟩
end

/-! ### Lists, item by item -/
theorem VL_iff (xs : List AV) : ∀ vs : List Value, VL S w xs vs ↔ xs.length = vs.length ∧ ∀ (i : Nat) (x : AV), xs[i]? = some x → ∃ v, vs[i]? = some v ∧ v.oneCell' = true ∧ V0 S w x v := by
  induction xs with
  | nil => intro vs; cases vs <;> simp [VL]
  | cons x xs ih =>
    intro vs
    simp only [VL]
    constructor
    · rintro ⟨v, r, rfl, ho, h0, hr⟩
      obtain ⟨hl, hi⟩ := (ih r).1 hr
      refine ⟨by simp [hl], fun i y hy => ?_⟩
      cases i with
      | zero => simp at hy; subst hy; exact ⟨v, by simp, ho, h0⟩
      | succ i => exact hi i y (by simpa using hy)
    · rintro ⟨hl, hi⟩
      cases vs with
      | nil => simp at hl
      | cons v r =>
        obtain ⟨v', hv', ho, h0⟩ := hi 0 x rfl
        simp at hv'; subst hv'
        exact ⟨v, r, rfl, ho, h0, (ih r).2 ⟨by simpa using hl, fun i y hy => hi (i + 1) y (by simpa using hy)⟩⟩
theorem VT_iff (xs : List AV) : ∀ vs : List Value, VT S w xs vs ↔ xs.length = vs.length ∧ ∀ (i : Nat) (x : AV), xs[i]? = some x → ∃ v, vs[i]? = some v ∧ V0 S w x v := by
  induction xs with
  | nil => intro vs; cases vs <;> simp [VT]
  | cons x xs ih =>
    intro vs
    simp only [VT]
    constructor
    · rintro ⟨v, r, rfl, h0, hr⟩
      obtain ⟨hl, hi⟩ := (ih r).1 hr
      refine ⟨by simp [hl], fun i y hy => ?_⟩
      cases i with
      | zero => simp at hy; subst hy; exact ⟨v, by simp, h0⟩
      | succ i => exact hi i y (by simpa using hy)
    · rintro ⟨hl, hi⟩
      cases vs with
      | nil => simp at hl
      | cons v r =>
        obtain ⟨v', hv', h0⟩ := hi 0 x rfl
        simp at hv'; subst hv'
        exact ⟨v, r, rfl, h0, (ih r).2 ⟨by simpa using hl, fun i y hy => hi (i + 1) y (by simpa using hy)⟩⟩
theorem VC_iff (xs : List AV) : ∀ b o, VC S w xs b o ↔ ∀ (i : Nat) (x : AV), xs[i]? = some x → S b (o + i) ∧ ∃ v, w.cell? ⟨b, o + i, none⟩ = some v ∧ v.oneCell' = true ∧ V0 S w x v := by
  induction xs with
  | nil => intro b o; simp [VC]
  | cons x xs ih =>
    intro b o
    simp only [VC]
    constructor
    · rintro ⟨hs, hv, hr⟩ i y hy
      cases i with
      | zero => simp at hy; subst hy; exact ⟨hs, hv⟩
      | succ i =>
        have := (ih b (o + 1)).1 hr i y (by simpa using hy)
        rwa [show o + 1 + i = o + (i + 1) by omega] at this
    · intro h
      refine ⟨(h 0 x rfl).1, (h 0 x rfl).2, (ih b (o + 1)).2 fun i y hy => ?_⟩
      have := h (i + 1) y (by simpa using hy)
      rwa [show o + (i + 1) = o + 1 + i by omega] at this

theorem VC.drop {xs : List AV} {b o : Nat} (h : VC S w xs b o) (k : Nat) : VC S w (xs.drop k) b (o + k) :=
  (VC_iff _ _ _).2 fun i x hx => by
    have := (VC_iff _ _ _).1 h (k + i) x (by simpa [List.getElem?_drop] using hx)
    rwa [show o + (k + i) = o + k + i by omega] at this
theorem VC.take {xs : List AV} {b o : Nat} (h : VC S w xs b o) (k : Nat) : VC S w (xs.take k) b o :=
  (VC_iff _ _ _).2 fun i x hx => (VC_iff _ _ _).1 h i x (by
    rw [List.getElem?_take] at hx; split at hx
    · exact hx
    · cases hx)
theorem VC.append {xs ys : List AV} {b o : Nat} (h : VC S w xs b o) (k : VC S w ys b (o + xs.length)) : VC S w (xs ++ ys) b o :=
  (VC_iff _ _ _).2 fun i x hx => by
    rcases Nat.lt_or_ge i xs.length with hi | hi
    · rw [List.getElem?_append_left hi] at hx; exact (VC_iff _ _ _).1 h i x hx
    · rw [List.getElem?_append_right hi] at hx
      have := (VC_iff _ _ _).1 k (i - xs.length) x hx
      rwa [show o + xs.length + (i - xs.length) = o + i by omega] at this
/-- The cells as values. -/
theorem VC.vals {xs : List AV} {b o : Nat} (h : VC S w xs b o) : ∃ vs : List Value, VL S w xs vs ∧ ∀ i v, vs[i]? = some v → w.cell? ⟨b, o + i, none⟩ = some v := by
  induction xs generalizing o with
  | nil => exact ⟨[], by simp [VL], by simp⟩
  | cons x xs ih =>
    simp only [VC] at h
    obtain ⟨_, ⟨v, hv, ho, h0⟩, hr⟩ := h
    obtain ⟨vs, hl, hc⟩ := ih hr
    refine ⟨v :: vs, by simp only [VL]; exact ⟨v, vs, rfl, ho, h0, hl⟩, fun i u hu => ?_⟩
    cases i with
    | zero => simp at hu; subst hu; exact hv
    | succ i =>
      have := hc i u (by simpa using hu)
      rwa [show o + 1 + i = o + (i + 1) by omega] at this
theorem VL.drop {xs : List AV} {vs : List Value} (h : VL S w xs vs) (k : Nat) : VL S w (xs.drop k) (vs.drop k) := by
  obtain ⟨hl, hi⟩ := (VL_iff _ _).1 h
  exact (VL_iff _ _).2 ⟨by simp [hl], fun i x hx => by simpa [List.getElem?_drop] using hi (k + i) x (by simpa [List.getElem?_drop] using hx)⟩
theorem VL.take {xs : List AV} {vs : List Value} (h : VL S w xs vs) (k : Nat) : VL S w (xs.take k) (vs.take k) := by
  obtain ⟨hl, hi⟩ := (VL_iff _ _).1 h
  refine (VL_iff _ _).2 ⟨by simp [hl], fun i x hx => ?_⟩
  rw [List.getElem?_take] at hx
  split at hx
  · rename_i hk
    obtain ⟨v, hv, h⟩ := hi i x hx
    exact ⟨v, by rw [List.getElem?_take, if_pos hk]; exact hv, h⟩
  · cases hx
theorem VL.append {xs ys : List AV} {vs us : List Value} (h : VL S w xs vs) (k : VL S w ys us) : VL S w (xs ++ ys) (vs ++ us) := by
  obtain ⟨hl, hi⟩ := (VL_iff _ _).1 h
  obtain ⟨kl, ki⟩ := (VL_iff _ _).1 k
  refine (VL_iff _ _).2 ⟨by simp [hl, kl], fun i x hx => ?_⟩
  rcases Nat.lt_or_ge i xs.length with h' | h'
  · rw [List.getElem?_append_left h'] at hx
    rw [List.getElem?_append_left (by omega)]
    exact hi i x hx
  · rw [List.getElem?_append_right h'] at hx
    rw [List.getElem?_append_right (by omega), ← hl]
    exact ki _ x hx
theorem VL.nil : VL S w [] [] := by simp [VL]
theorem VT.nil : VT S w [] [] := by simp [VT]

theorem V0_ofV1 (v : Value) : V0 S w (ofV1 v) v := by
  unfold ofV1
  split <;> (try simp only [V0])
  · exact ⟨none, 0, rfl, Nat.le_refl _, fun _ => rfl, ⟨rfl, fun _ => rfl⟩, Or.inl (by simp)⟩
  · exact ⟨[], rfl, VT.nil⟩
theorem VL_ofV1 : ∀ cs : List Value, (cs.all fun v => v.oneCell') = true → VL S w (cs.map ofV1) cs
  | [], _ => VL.nil
  | c :: cs, h => by
    simp only [List.all_cons, Bool.and_eq_true] at h
    simp only [List.map_cons, VL]
    exact ⟨c, cs, rfl, h.1, V0_ofV1 c, VL_ofV1 cs h.2⟩
end
end Go.Ab
