/- Operations that read memory, or make a row that stays: they yield what the abstract ones tell. No conditions. -/
import Derived.Test.YtaifnpbgamookaaDoorAbO
import Derived.Laws.BytesString
namespace Go.Ab
section
variable {P : Program} {Γ : G}

theorem esz_info {t n : Nat} (h : esz P t = some n) : ∃ i, P.info? t = some i ∧ i.size = n ∧ 0 < n := by
  unfold esz at h
  split at h
  · rename_i i hi
    split at h
    · rename_i h0; cases h; exact ⟨i, hi, rfl, h0⟩
    · cases h
  · cases h
theorem run_esz {t n : Nat} (h : esz P t = some n) (w : World) : (sizeOf t).run P w = .ok n w := by
  obtain ⟨i, hi, hs, _⟩ := esz_info h
  simp [sizeOf, typeInfo, hi, hs]
theorem shOf_run {t n : Nat} {b : Bool} (h : shOf P t = some (b, n)) (w : World) : (isAgg t).run P w = .ok b w ∧ (sizeOf t).run P w = .ok n w := by
  unfold shOf at h
  split at h
  · rename_i d i hd hi
    cases h
    exact ⟨run_isAgg hd w, by simp [sizeOf, typeInfo, hi]⟩
  · cases h

theorem V_tree {x : AV} {v : Value} (hx : isTree x = true) : V Γ x v ↔ V0 Γ.S Γ.w x v := ⟨fun h => h.to0 hx, fun h => .of0 h hx⟩

/-- What is a tree by itself is no handle. -/
theorem V0_isTree {S : Nat → Nat → Prop} {w : World} {x : AV} {v : Value} (h : V0 S w x v) : isTree x = true := by
  cases x <;> simp [isTree, V0] at h ⊢
  rename_i g
  cases g with
  | tok p t =>
    obtain ⟨_, _, _, _, _, h, _⟩ := h
    simp [Grip.isTok] at h
  | _ => rfl
theorem V_cell {x : AV} {v : Value} (h : V0 Γ.S Γ.w x v) : V Γ x v := .of0 h (V0_isTree h)

/-- What is known of cells from an address on. -/
def Reads (Γ : G) (xs : List AV) (b o : Nat) : Prop :=
  ∀ (i : Nat) (x : AV), xs[i]? = some x → ∃ v, Γ.w.cell? ⟨b, o + i, none⟩ = some v ∧ v.oneCell' = true ∧ V0 Γ.S Γ.w x v
theorem Reads.ofVC {xs : List AV} {b o : Nat} (h : VC Γ.S Γ.w xs b o) : Reads Γ xs b o := fun i x hx => ((VC_iff _ _ _).1 h i x hx).2
theorem Reads.drop {xs : List AV} {b o : Nat} (h : Reads Γ xs b o) (k : Nat) : Reads Γ (xs.drop k) b (o + k) := fun i x hx => by
  have := h (k + i) x (by simpa [List.getElem?_drop] using hx)
  rwa [← Nat.add_assoc] at this
theorem Reads.take {xs : List AV} {b o : Nat} (h : Reads Γ xs b o) (k : Nat) : Reads Γ (xs.take k) b o := fun i x hx => h i x (by
  rw [List.getElem?_take] at hx; split at hx
  · exact hx
  · cases hx)
theorem Reads.vals {xs : List AV} {b o : Nat} (h : Reads Γ xs b o) : ∃ vs : List Value, VL Γ.S Γ.w xs vs ∧ ∀ (i : Nat) (v : Value), vs[i]? = some v → Γ.w.cell? ⟨b, o + i, none⟩ = some v := by
  induction xs generalizing o with
  | nil => exact ⟨[], VL.nil, by simp⟩
  | cons x xs ih =>
    obtain ⟨v, hv, ho, h0⟩ := h 0 x rfl
    obtain ⟨vs, hl, hc⟩ := ih (o := o + 1) (fun i y hy => by
      have := h (i + 1) y (by simpa using hy)
      rwa [show o + (i + 1) = o + 1 + i by omega] at this)
    refine ⟨v :: vs, by simp only [VL]; exact ⟨v, vs, rfl, ho, h0, hl⟩, fun i u hu => ?_⟩
    cases i with
    | zero => simp at hu; subst hu; exact hv
    | succ i =>
      have := hc i u (by simpa using hu)
      rwa [show o + 1 + i = o + (i + 1) by omega] at this
theorem Reads.load {xs : List AV} {b o : Nat} (h : Reads Γ xs b o) : ∃ vs : List Value, VL Γ.S Γ.w xs vs ∧ (loadCells ⟨b, o, none⟩ xs.length).run P Γ.w = .ok vs.toArray Γ.w := by
  obtain ⟨vs, h1, h2⟩ := h.vals
  refine ⟨vs, h1, ?_⟩
  rw [((VL_iff _ _).1 h1).1]
  exact run_loadCells_list Γ.w ⟨b, o, none⟩ vs (fun j v hj => by rw [add_eq]; exact h2 j v hj)

theorem loadVar_ok {t off : Nat} {xs : List AV} {r : AV} (h : partA P t xs off = some r) {b o : Nat} (hc : Reads Γ xs b o) : PureOk P (loadVar t ⟨b, o + off, none⟩) Γ r := by
  unfold partA at h
  split at h
  · rename_i n hs
    obtain ⟨h1, h2⟩ := shOf_run hs Γ.w
    split at h
    · rename_i hl
      cases h
      obtain ⟨vs, hv, hrun⟩ := ((hc.drop off).take n).load (P := P)
      have e : ((xs.drop off).take n).length = n := by simp; omega
      rw [e] at hrun
      refine ⟨.agg vs.toArray, ?_, (V_tree rfl).2 ⟨vs, rfl, hv⟩⟩
      simp only [loadVar, Sem.run_bind, h1, Result.andThen_ok, if_true, h2, hrun]; rfl
    · cases h
  · rename_i n hs
    obtain ⟨h1, _⟩ := shOf_run hs Γ.w
    obtain ⟨v, h2, h3, h4⟩ := hc off r h
    refine ⟨v, ?_, V_cell h4⟩
    simp only [loadVar, Sem.run_bind, h1, Result.andThen_ok, Bool.false_eq_true, if_false, run_load, h2]
  · cases h

theorem part_ok {t off : Nat} {xs : List AV} {r : AV} (h : partA P t xs off = some r) {vs : List Value} (hv : VL Γ.S Γ.w xs vs) : PureOk P (part t vs.toArray off) Γ r := by
  unfold partA at h
  have hlen := ((VL_iff _ _).1 hv).1
  split at h
  · rename_i n hs
    obtain ⟨h1, h2⟩ := shOf_run hs Γ.w
    split at h
    · rename_i hl
      cases h
      refine ⟨.agg (vs.toArray.extract off (off + n)), ?_, (V_tree rfl).2 ⟨(vs.drop off).take n, ?_, (hv.drop off).take n⟩⟩
      · simp only [part, Sem.run_bind, h1, Result.andThen_ok, if_true, h2]; rfl
      · congr 1; simp
    · cases h
  · rename_i n hs
    obtain ⟨h1, _⟩ := shOf_run hs Γ.w
    obtain ⟨v, h2, h3, h4⟩ := ((VL_iff _ _).1 hv).2 off r h
    refine ⟨v, ?_, V_cell h4⟩
    simp [part, h1, h2]
  · cases h
end
end Go.Ab
