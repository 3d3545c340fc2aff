/- Stores, new variables: they go on to the store that the abstract ones tell. No conditions. -/
import Derived.Test.YtaifnpbgamookaaDoorAbR
namespace Go.Ab
section
variable {P : Program} {Γ : G}

/-- A step of the abstract state alone. -/
def Quiet (Γ : G) (s' : St) (Γ' : G) : Prop := Γ'.w = Γ.w ∧ Γ'.s = s' ∧ Inv Γ' ∧ Ext Γ Γ'

theorem settle_ok (hI : Inv Γ) {v v' : AV} {s' : St} (h : settle Γ.s v = some (v', s')) {vv : Value} (hv : V Γ v vv) : ∃ Γ', Quiet Γ s' Γ' ∧ V0 Γ'.S Γ'.w v' vv := by
  unfold settle at h
  split at h
  · rename_i p t off len e
    split at h
    · rename_i t' xs hp
      split at h
      · rename_i hc
        obtain ⟨rfl, hl⟩ := hc
        cases h
        obtain ⟨hI', hE⟩ := hI.freeze hp
        refine ⟨{ Γ with s := upd Γ.s p ⟨t', .frz xs⟩, S := fun b o => Γ.S b o ∨ (b = (Γ.φ p).blk ∧ (Γ.φ p).base ≤ o ∧ o < (Γ.φ p).base + xs.length) }, ⟨rfl, rfl, hI', hE⟩, ?_⟩
        obtain ⟨cap, rfl, hlc, _⟩ := hv.2 xs (by simp [cellsAt, hp])
        have he := hI'.ent p
        unfold EntOk at he
        simp only [upd_same, EntC] at he
        exact ⟨_, cap, rfl, hlc, by simp, ⟨rfl, by simp⟩, .inr ⟨_, _, rfl, (he.drop off).take _⟩⟩
      · cases h
    · rename_i t' xs hp
      split at h
      · rename_i hc
        obtain ⟨rfl, hl⟩ := hc
        cases h
        refine ⟨Γ, ⟨rfl, rfl, hI, .refl _⟩, ?_⟩
        obtain ⟨cap, rfl, hlc, _⟩ := hv.2 xs (by simp [cellsAt, hp])
        have he := hI.ent p
        unfold EntOk at he
        rw [hp] at he
        simp only [EntC] at he
        exact ⟨_, cap, rfl, hlc, by simp, ⟨rfl, by simp⟩, .inr ⟨_, _, rfl, (he.drop off).take _⟩⟩
      · cases h
    · cases h
  · cases h
    exact ⟨Γ, ⟨rfl, rfl, hI, .refl _⟩, hv.1⟩
  · cases h
  · rename_i h1 h2 h3
    cases h
    refine ⟨Γ, ⟨rfl, rfl, hI, .refl _⟩, hv.to0 ?_⟩
    unfold isTree
    split
    · exact absurd rfl (h1 _ _ _ _ _)
    · exact absurd rfl (h3 _ _ _)
    · exact absurd rfl (h2 _ _ _ _)
    · rfl

theorem settled_ok {v v' : AV} (h : settled v = some v') {vv : Value} (hv : V Γ v vv) : V0 Γ.S Γ.w v' vv := by
  unfold settled at h
  split at h
  · cases h
  · cases h
  · cases h; exact hv.1
  · rename_i h1 h2 h3
    cases h
    refine hv.to0 ?_
    unfold isTree
    split
    · exact absurd rfl (h1 _ _ _ _ _)
    · exact absurd rfl (h2 _ _ _)
    · exact absurd rfl (h3 _ _ _ _)
    · rfl

theorem cellOk_one {S : Nat → Nat → Prop} {w : World} {x : AV} {v : Value} (hc : cellOk x = true) (h : V0 S w x v) : v.oneCell' = true ∧ v.cells = #[v] := by
  cases x <;> simp [cellOk] at hc <;> simp only [V0] at h
  · subst h; exact ⟨rfl, rfl⟩
  · subst h; exact ⟨rfl, rfl⟩
  · subst h; exact ⟨rfl, rfl⟩
  · obtain ⟨_, _, rfl, _⟩ := h; exact ⟨rfl, rfl⟩
  · obtain ⟨_, _, rfl, _⟩ := h; exact ⟨rfl, rfl⟩
  · subst h; exact ⟨rfl, rfl⟩
  · obtain ⟨_, rfl, _⟩ := h; exact ⟨rfl, rfl⟩
  · subst h; exact ⟨rfl, rfl⟩
theorem VL_one {S : Nat → Nat → Prop} {w : World} {x : AV} {v : Value} (hc : cellOk x = true) (h : V0 S w x v) : VL S w [x] [v] := by
  simp only [VL]; exact ⟨v, [], rfl, (cellOk_one hc h).1, h, rfl⟩
/-- A value as cells. -/
theorem cellsOf_ok {S : Nat → Nat → Prop} {w : World} {x : AV} {xs : List AV} {v : Value} (hx : cellsOf x = some xs) (h : V0 S w x v) : ∃ vs : List Value, v.cells = vs.toArray ∧ VL S w xs vs := by
  unfold cellsOf at hx
  split at hx
  · cases hx
    obtain ⟨vs, rfl, hv⟩ := h
    exact ⟨vs, rfl, hv⟩
  · split at hx
    · rename_i hc
      cases hx
      exact ⟨[v], (cellOk_one hc h).2, VL_one hc h⟩
    · cases hx

theorem splice_length {xs ys : List AV} {off : Nat} (h : off + ys.length ≤ xs.length) : (splice xs off ys).length = xs.length := by
  simp [splice]; omega
theorem splice_get {xs ys : List AV} {off : Nat} (h : off + ys.length ≤ xs.length) (i : Nat) : (splice xs off ys)[i]? = if i < off then xs[i]? else if i < off + ys.length then ys[i - off]? else xs[i]? := by
  unfold splice
  have hlt : (xs.take off).length = off := by simp; omega
  split
  · rename_i h1
    rw [List.append_assoc, List.getElem?_append_left (by omega), List.getElem?_take, if_pos h1]
  · rename_i h1
    split
    · rename_i h2
      rw [List.append_assoc, List.getElem?_append_right (by omega), List.getElem?_append_left (by omega), hlt]
    · rename_i h2
      rw [List.append_assoc, List.getElem?_append_right (by omega), List.getElem?_append_right (by omega), hlt, List.getElem?_drop]
      congr 1; omega

theorem VL.oneCells {S : Nat → Nat → Prop} {w : World} {xs : List AV} {vs : List Value} (h : VL S w xs vs) : ∀ v ∈ vs, v.oneCell' = true := fun v hv => by
  obtain ⟨i, hi⟩ := List.mem_iff_getElem?.1 hv
  have hl := ((VL_iff _ _).1 h).1
  have hlt : i < vs.length := by
    rcases Nat.lt_or_ge i vs.length with h' | h'
    · exact h'
    · rw [List.getElem?_eq_none h'] at hi; cases hi
  obtain ⟨u, h1, h2, _⟩ := ((VL_iff _ _).1 h).2 i xs[i] (List.getElem?_eq_getElem (by omega))
  rw [hi] at h1; cases h1
  exact h2

/-- Cells written into a block. -/
theorem Inv.write (hI : Inv Γ) {p t off : Nat} {xs ys : List AV} (hp : Γ.s p = ⟨t, .buf xs⟩) {vs : List Value} (hv : VL Γ.S Γ.w ys vs) (hl : off + ys.length ≤ xs.length) :
    ∃ Γ', (storeCells ⟨(Γ.φ p).blk, (Γ.φ p).base + off, none⟩ vs 0).run P Γ.w = .ok () Γ'.w ∧ Γ'.s = upd Γ.s p ⟨t, .buf (splice xs off ys)⟩ ∧ Inv Γ' ∧ Ext Γ Γ' := by
  have hlen := ((VL_iff _ _).1 hv).1
  have he := hI.ent p
  unfold EntOk at he
  rw [hp] at he
  obtain ⟨h1, h2, h3, _⟩ := he
  obtain ⟨w', hrun, hw, hcell⟩ := run_storeCells P (Γ.φ p).blk vs ((Γ.φ p).base + off) 0 Γ.w hv.oneCells (fun j hj => by
    obtain ⟨v, hv', _⟩ := h3 (off + j) xs[off + j] (List.getElem?_eq_getElem (by omega))
    exact ⟨⟨v, by rw [Nat.add_zero, Nat.add_assoc]; exact hv'⟩, h2 _⟩)
  rw [Nat.add_zero] at hw
  obtain ⟨hI', hE⟩ := hI.store (xs' := splice xs off ys) hp (w' := w') hw (splice_length hl) (fun i x hx => by
    rw [splice_get hl] at hx
    split at hx
    · obtain ⟨v, g1, g2, g3⟩ := h3 i x hx
      exact ⟨v, by rw [hw.cell _ (.inl (by omega))]; exact g1, g2, g3⟩
    · rename_i hi
      split at hx
      · obtain ⟨v, g1, g2, g3⟩ := ((VL_iff _ _).1 hv).2 (i - off) x hx
        refine ⟨v, ?_, g2, g3⟩
        have := hcell (i - off) v g1
        rwa [Nat.add_zero, show (Γ.φ p).base + off + (i - off) = (Γ.φ p).base + i by omega] at this
      · obtain ⟨v, g1, g2, g3⟩ := h3 i x hx
        exact ⟨v, by rw [hw.cell _ (.inr (by omega))]; exact g1, g2, g3⟩) (by omega)
  exact ⟨_, hrun, rfl, hI', hE⟩

theorem set_splice {xs : List AV} {off : Nat} {v : AV} (h : off < xs.length) : xs.set off v = splice xs off [v] := by
  unfold splice
  rw [List.set_eq_take_append_cons_drop, if_pos h]
  simp

/-- A store yields nothing. -/
def UnitOk (P : Program) (m : Sem Unit) (Γ : G) (s' : St) : Prop := ∃ Γ', m.run P Γ.w = .ok () Γ'.w ∧ Γ'.s = s' ∧ Inv Γ' ∧ Ext Γ Γ'

theorem storeA_ok (hI : Inv Γ) {t : Nat} {a v : AV} {s' : St} (h : storeA P t Γ.s a v = some s') {va vv : Value} (ha : V Γ a va) (hv : V Γ v vv) : UnitOk P (Instr.storeAt t va vv) Γ s' := by
  unfold storeA at h
  split at h
  · rename_i p i off
    simp only [Option.bind_eq_some_iff] at h
    obtain ⟨⟨v1, s1⟩, hs, h⟩ := h
    obtain ⟨Γ1, ⟨hw1, rfl, hI1, hE1⟩, hv1⟩ := settle_ok hI hs hv
    dsimp only at h
    split at h
    · rename_i t' xs hp
      split at h
      · rename_i ht
        subst ht
        have ha1 := (V.ext hE1 ha).2 xs (by simp [cellsAt, hp])
        subst ha1
        have go : ∀ (ys : List AV) (vs : List Value), vv.cells = vs.toArray → VL Γ1.S Γ1.w ys vs → esz P t = some ys.length → off + ys.length ≤ xs.length →
            s' = upd Γ1.s p ⟨t', .buf (splice xs off ys)⟩ → UnitOk P (Instr.storeAt t (.pointer (some ⟨(Γ1.φ p).blk, (Γ1.φ p).base + off, none⟩)) vv) Γ s' := by
          intro ys vs hc hvl hsz hl he
          obtain ⟨Γ2, hrun, hs2, hI2, hE2⟩ := Inv.write (P := P) hI1 hp hvl hl
          refine ⟨Γ2, ?_, by rw [he]; exact hs2, hI2, hE1.trans hE2⟩
          have hlen := ((VL_iff _ _).1 hvl).1
          have hz : ¬ (vs.length ≠ ys.length) := by omega
          rw [← hw1]
          simp only [Instr.storeAt, Instr.sureAddr, Sem.run_bind, Sem.run_pure, Result.andThen_ok, storeVar, run_esz hsz, hc, List.size_toArray, hz, if_false]
          exact hrun
        split at h
        · rename_i ys
          split at h
          · rename_i hc
            cases h
            obtain ⟨vs, rfl, hvl⟩ := hv1
            exact go ys vs rfl hvl hc.1 hc.2 rfl
          · cases h
        · split at h
          · rename_i hc
            cases h
            refine go [v1] [vv] (cellOk_one hc.1 hv1).2 (VL_one hc.1 hv1) hc.2.1 hc.2.2 ?_
            rw [set_splice hc.2.2]
          · cases h
      · cases h
    · cases h
  · cases h

theorem run_newVar {t : TypeId} {v : Value} {vs : List Value} (h : v.cells = vs.toArray) (w : World) : (newVar t v).run P w = .ok ⟨w.heap.size, 0, none⟩ (w.alloc (.cells vs.toArray t)) := by
  simp only [newVar, newRow, Sem.run_bind, run_newObj, Result.andThen_ok, Sem.run_pure, h, World.alloc_eq]

theorem boxA_ok (hI : Inv Γ) {t d : Nat} {x v : AV} {s1 : St} {xs : List AV} (h : settle Γ.s x = some (v, s1)) (hc : cellsOf v = some xs) {vx : Value} (hx : V Γ x vx) :
    SemOk P (Instr.box t vx) Γ (upd s1 d ⟨(s1 d).t + 1, .buf xs⟩) (.ptr d ((s1 d).t + 1) 0) := by
  obtain ⟨Γ1, ⟨hw1, rfl, hI1, hE1⟩, hv1⟩ := settle_ok hI h hx
  obtain ⟨vs, hcs, hvl⟩ := cellsOf_ok hc hv1
  obtain ⟨hI2, hE2⟩ := hI1.alloc (d := d) (t := (Γ1.s d).t + 1) (by omega) vs.toArray t xs vs hvl [] (by simp)
  refine ⟨.pointer (some ⟨Γ1.w.heap.size, 0, none⟩), _, ?_, rfl, hI2, hE1.trans hE2, ?_⟩
  · rw [← hw1]
    simp only [Instr.box, Sem.run_bind, run_newVar hcs, Result.andThen_ok, Sem.run_pure]
  · exact ⟨by simp, fun ys _ => by simp⟩

theorem zeroOf_ok {t : Nat} {z : List AV} (h : zeroOf P t = some z) (S : Nat → Nat → Prop) (w : World) : ∃ v : Value, (zeroValue t).run P w = .ok v w ∧ z = v.cells.toList.map ofV1 ∧ VL S w z v.cells.toList := by
  unfold zeroOf at h
  split at h
  · rename_i v hv
    split at h
    · rename_i hc
      cases h
      cases hi : P.info? t with
      | none => rw [hi] at hv; cases hv
      | some i =>
        rw [hi] at hv
        have hv' : i.zero = some v := hv
        exact ⟨v, by simp [zeroValue, typeInfo, hi, hv'], rfl, VL_ofV1 _ hc⟩
    · cases h
  · cases h

theorem allocA_ok (hI : Inv Γ) {t d : Nat} {z : List AV} (h : zeroOf P t = some z) :
    SemOk P (Instr.alloc t true (.tuple #[])) Γ (upd Γ.s d ⟨(Γ.s d).t + 1, .buf z⟩) (.ptr d ((Γ.s d).t + 1) 0) := by
  obtain ⟨v, hrun, hz, hvl⟩ := zeroOf_ok h Γ.S Γ.w
  obtain ⟨hI2, hE2⟩ := hI.alloc (d := d) (t := (Γ.s d).t + 1) (by omega) v.cells.toList.toArray t z v.cells.toList hvl [] (by simp)
  refine ⟨.pointer (some ⟨Γ.w.heap.size, 0, none⟩), _, ?_, rfl, hI2, hE2, ?_⟩
  · have : (newVar t v).run P Γ.w = .ok ⟨Γ.w.heap.size, 0, none⟩ (Γ.w.alloc (.cells v.cells.toList.toArray t)) := run_newVar (by simp) _
    simp only [Instr.alloc, Sem.run_bind, hrun, Result.andThen_ok, this, Sem.run_pure]
  · exact ⟨by simp, fun ys _ => by simp⟩
end
end Go.Ab
