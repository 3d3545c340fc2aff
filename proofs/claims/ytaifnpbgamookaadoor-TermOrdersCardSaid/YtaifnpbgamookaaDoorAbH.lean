/- The steps of a run, one by one, beside the abstract state: a new row, a freeze, a store, room taken and filled. No conditions. -/
import Derived.Test.YtaifnpbgamookaaDoorAbG
namespace Go.Ab

/-- A write into k cells of one block. -/
structure Wr (w w' : World) (blk lim k : Nat) : Prop where
  os : w'.os = w.os
  tape : w'.tape = w.tape
  output : w'.output = w.output
  size : w'.heap.size = w.heap.size
  other : ∀ b, b ≠ blk → w'.heap[b]? = w.heap[b]?
  cell : ∀ o, (o < lim ∨ lim + k ≤ o) → w'.cell? ⟨blk, o, none⟩ = w.cell? ⟨blk, o, none⟩
  frz : ∀ o, w'.frozen? ⟨blk, o, none⟩ = w.frozen? ⟨blk, o, none⟩
  nil : k = 0 → w' = w

theorem cell_of_block {w w' : World} {b : Nat} (h : w'.heap[b]? = w.heap[b]?) (o : Nat) : w'.cell? ⟨b, o, none⟩ = w.cell? ⟨b, o, none⟩ := by
  unfold World.cell?; dsimp only; rw [h]
theorem frozen_of_block {w w' : World} {b : Nat} (h : w'.heap[b]? = w.heap[b]?) (o : Nat) : w'.frozen? ⟨b, o, none⟩ = w.frozen? ⟨b, o, none⟩ := by
  unfold World.frozen?; dsimp only; rw [h]

theorem Wr.zero (w : World) (blk lim : Nat) : Wr w w blk lim 0 := ⟨rfl, rfl, rfl, rfl, fun _ _ => rfl, fun _ _ => rfl, fun _ => rfl, fun _ => rfl⟩
theorem Wr.cellAny {w w' : World} {blk lim k : Nat} (h : Wr w w' blk lim k) {b o : Nat} (ho : b ≠ blk ∨ o < lim ∨ lim + k ≤ o) : w'.cell? ⟨b, o, none⟩ = w.cell? ⟨b, o, none⟩ := by
  by_cases hb : b = blk
  · subst hb
    exact h.cell o (by rcases ho with h | h; exact absurd rfl h; exact h)
  · exact cell_of_block (h.other b hb) o
theorem Wr.frzAny {w w' : World} {blk lim k : Nat} (h : Wr w w' blk lim k) (b o : Nat) : w'.frozen? ⟨b, o, none⟩ = w.frozen? ⟨b, o, none⟩ := by
  by_cases hb : b = blk
  · subst hb; exact h.frz o
  · exact frozen_of_block (h.other b hb) o
theorem Wr.set (w : World) (blk lim : Nat) (v : Value) : Wr w (w.setCell ⟨blk, lim, none⟩ v) blk lim 1 := by
  refine ⟨rfl, rfl, rfl, by simp, fun b hb => ?_, fun o ho => World.cell?_setCell_other _ _ _ _ (fun e => ?_), fun o => World.frozen?_setCell _ _ _ _, fun h => by cases h⟩
  · simp only [World.setCell, Array.getElem?_modify]; rw [if_neg (by omega)]
  · have h2 := congrArg Addr.off e; dsimp only at h2; omega
theorem Wr.trans {w w' w'' : World} {blk lim k l : Nat} (h : Wr w w' blk lim k) (g : Wr w' w'' blk (lim + k) l) : Wr w w'' blk lim (k + l) :=
  ⟨g.os.trans h.os, g.tape.trans h.tape, g.output.trans h.output, g.size.trans h.size, fun b hb => (g.other b hb).trans (h.other b hb),
    fun o ho => (g.cell o (by omega)).trans (h.cell o (by omega)), fun o => (g.frz o).trans (h.frz o), fun e => (g.nil (by omega)).trans (h.nil (by omega))⟩

theorem add_eq (blk off n : Nat) : (⟨blk, off, none⟩ : Addr).add n = ⟨blk, off + n, none⟩ := by
  unfold Addr.add; split
  · rename_i h; subst h; rfl
  · rfl

/-- Values stored one behind the other. -/
theorem run_storeCells (P : Program) (blk : Nat) : ∀ (vs : List Value) (off i : Nat) (w : World), (∀ v ∈ vs, v.oneCell' = true) →
    (∀ j, j < vs.length → (∃ v, w.cell? ⟨blk, off + i + j, none⟩ = some v) ∧ w.frozen? ⟨blk, off + i + j, none⟩ = false) →
    ∃ w', (storeCells ⟨blk, off, none⟩ vs i).run P w = .ok () w' ∧ Wr w w' blk (off + i) vs.length ∧ ∀ (j : Nat) (v : Value), vs[j]? = some v → w'.cell? ⟨blk, off + i + j, none⟩ = some v
  | [], off, i, w, _, _ => ⟨w, by simp [storeCells], Wr.zero _ _ _, by simp⟩
  | v :: vs, off, i, w, ho, hc => by
    obtain ⟨⟨u, hu⟩, hf⟩ := hc 0 (by simp)
    rw [Nat.add_zero] at hu hf
    have h1 := Wr.set w blk (off + i) v
    obtain ⟨w', hr, hw, hv⟩ := run_storeCells P blk vs off (i + 1) (w.setCell ⟨blk, off + i, none⟩ v) (fun x hx => ho x (List.mem_cons_of_mem _ hx)) (fun j hj => by
      obtain ⟨⟨x, hx⟩, hxf⟩ := hc (j + 1) (by simpa using hj)
      rw [show off + (i + 1) + j = off + i + (j + 1) by omega]
      exact ⟨⟨x, by rw [h1.cell _ (by omega)]; exact hx⟩, by rw [h1.frz]; exact hxf⟩)
    refine ⟨w', ?_, ?_, fun j x hx => ?_⟩
    · simp only [storeCells, add_eq, Sem.run_bind]
      rw [run_store _ _ _ _ _ (ho v (List.mem_cons_self ..))]
      simp only [hu, hf, Bool.false_eq_true, if_false, Result.andThen_ok]
      exact hr
    · have := h1.trans (g := by rw [show off + i + 1 = off + (i + 1) by omega]; exact hw)
      rwa [Nat.add_comm 1] at this
    · cases j with
      | zero =>
        simp at hx; subst hx
        rw [Nat.add_zero, hw.cell _ (by omega)]
        exact World.cell?_setCell_same _ _ _ hu
      | succ j =>
        have := hv j x (by simpa using hx)
        rwa [show off + (i + 1) + j = off + i + (j + 1) by omega] at this

section
variable {Γ : G} (hI : Inv Γ)
include hI

/-- A write into the region of one entry is a step for all others. -/
theorem Inv.wrStays {p blk lim k : Nat} {w' : World} (hw : Wr Γ.w w' blk lim k) (hr : ∀ o, lim ≤ o → o < lim + k → Rg Γ p blk o) {S' : Nat → Nat → Prop} (hS : ∀ b o, Γ.S b o → S' b o) :
    Stays Γ.S Γ.w S' w' := fun b o h => ⟨hS b o h, hw.cellAny (by
      by_cases hb : b = blk
      · subst hb
        by_cases h1 : o < lim
        · exact .inr (.inl h1)
        · by_cases h2 : lim + k ≤ o
          · exact .inr (.inr h2)
          · exact absurd (hr o (by omega) (by omega)) ((hI.stay _ o h).2 p)
      · exact .inl hb)⟩

/-- Entries other than p are as they were behind such a write. -/
theorem Inv.wrEnt {p q blk lim k : Nat} {w' : World} (hw : Wr Γ.w w' blk lim k) (hr : ∀ o, lim ≤ o → o < lim + k → Rg Γ p blk o) (hq : q ≠ p) {S' : Nat → Nat → Prop} (hS : ∀ b o, Γ.S b o → S' b o) :
    EntC (Γ.φ q) S' w' (Γ.s q).c := by
  have hst := hI.wrStays hw hr hS
  have he := hI.ent q
  unfold EntOk at he
  have hcell : ∀ o, Rg Γ q (Γ.φ q).blk o → w'.cell? ⟨(Γ.φ q).blk, o, none⟩ = Γ.w.cell? ⟨(Γ.φ q).blk, o, none⟩ := fun o ho => hw.cellAny (by
    by_cases hb : (Γ.φ q).blk = blk
    · by_cases h1 : o < lim
      · exact .inr (.inl h1)
      · by_cases h2 : lim + k ≤ o
        · exact .inr (.inr h2)
        · rw [hb] at ho; exact absurd (hr o (by omega) (by omega)) (hI.apart q p _ o hq ho)
    · exact .inl hb)
  unfold EntC at he ⊢
  unfold Rg at hcell
  split at he
  · trivial
  · rename_i xs hx
    rw [hx] at hcell
    refine ⟨by rw [hw.size]; exact he.1, fun o => by rw [hw.frzAny]; exact he.2.1 o, fun i x hi => ?_, fun i hi => ?_⟩
    · obtain ⟨v, h1, h2, h3⟩ := he.2.2.1 i x hi
      exact ⟨v, by rw [hcell _ rfl]; exact h1, h2, V0.mono hst _ _ h3⟩
    · obtain ⟨v, h1⟩ := he.2.2.2 i hi
      exact ⟨v, by rw [hcell _ rfl]; exact h1⟩
  · exact VC.mono hst _ _ _ he
  · rename_i e hx
    rw [hx] at hcell
    intro i hi
    obtain ⟨⟨v, h1⟩, h2⟩ := he i hi
    exact ⟨⟨v, by rw [hcell _ ⟨rfl, by omega, by omega⟩]; exact h1⟩, by rw [hw.frzAny]; exact h2⟩

/-- A store into a block. -/
theorem Inv.store {p t : Nat} {xs xs' : List AV} (hp : Γ.s p = ⟨t, .buf xs⟩) {w' : World} {lim k : Nat} (hw : Wr Γ.w w' (Γ.φ p).blk lim k) (hl : xs'.length = xs.length)
    (hc : ∀ (i : Nat) (x : AV), xs'[i]? = some x → ∃ v, w'.cell? ⟨(Γ.φ p).blk, (Γ.φ p).base + i, none⟩ = some v ∧ v.oneCell' = true ∧ V0 Γ.S Γ.w x v)
    (hk : lim + k ≤ (Γ.φ p).base + xs.length) :
    Inv { Γ with s := upd Γ.s p ⟨t, .buf xs'⟩, w := w' } ∧ Ext Γ { Γ with s := upd Γ.s p ⟨t, .buf xs'⟩, w := w' } := by
  have hr : ∀ o, lim ≤ o → o < lim + k → Rg Γ p (Γ.φ p).blk o := fun o _ _ => by unfold Rg; rw [hp]
  have hst := hI.wrStays hw hr (S' := Γ.S) (fun _ _ h => h)
  have hrg : ∀ q b o, Rg { Γ with s := upd Γ.s p ⟨t, .buf xs'⟩, w := w' } q b o ↔ Rg Γ q b o := fun q b o => by
    unfold Rg
    by_cases hq : q = p
    · subst hq; simp [hp]
    · simp [upd_ne _ _ hq]
  refine ⟨⟨fun q => ?_, fun q r b o hqr h1 h2 => hI.apart q r b o hqr ((hrg ..).1 h1) ((hrg ..).1 h2), fun b o h => ⟨by show b < w'.heap.size; rw [hw.size]; exact (hI.stay b o h).1, fun q hq => (hI.stay b o h).2 q ((hrg ..).1 hq)⟩⟩,
    hst, hw.os, hw.tape, hw.output, by show _ ≤ w'.heap.size; rw [hw.size]; exact Nat.le_refl _, fun b _ hn => ?_, fun b o _ hn => ?_, fun b o _ _ => hw.frzAny b o, fun _ _ h => .inl h, fun q b o h => .inl ⟨q, (hrg ..).1 h⟩, fun q => ?_, fun q u ys hu h => ?_, fun q u e hu h => ?_⟩
  · unfold EntOk
    by_cases hq : q = p
    · subst hq
      have he := hI.ent q
      unfold EntOk at he
      rw [hp] at he
      simp only [upd_same, EntC]
      refine ⟨by rw [hw.size]; exact he.1, fun o => by rw [hw.frzAny]; exact he.2.1 o, fun i x hx => ?_, fun i hi => ?_⟩
      · obtain ⟨v, h1, h2, h3⟩ := hc i x hx
        exact ⟨v, h1, h2, V0.mono hst _ _ h3⟩
      · obtain ⟨v, h1⟩ := he.2.2.2 i hi
        refine ⟨v, ?_⟩
        rw [hl, hw.cell _ (.inr (by omega))]; exact h1
    · simp only [upd_ne _ _ hq]
      exact hI.wrEnt hw hr hq (fun _ _ h => h)
  · have : b ≠ (Γ.φ p).blk := fun e => hn p 0 (by unfold Rg; rw [hp]; exact e)
    exact hw.other b this
  · have : b ≠ (Γ.φ p).blk := fun e => hn p (by unfold Rg; rw [hp]; exact e)
    exact hw.cellAny (.inl this)
  · by_cases hq : q = p
    · subst hq; simp [hp]
    · simp [upd_ne _ _ hq]
  · by_cases hq : q = p
    · subst hq
      rcases cellsAt_cases h with h' | h' <;> simp at h'
      obtain ⟨rfl, rfl⟩ := h'
      exact ⟨⟨xs, by simp [cellsAt, hp], hl⟩, rfl⟩
    · refine ⟨⟨ys, ?_, rfl⟩, rfl⟩
      unfold cellsAt at h ⊢
      simpa [upd_ne _ _ hq] using h
  · by_cases hq : q = p
    · subst hq; simp at h
    · simpa [upd_ne _ _ hq] using h

/-- A block that will not be written any more. -/
theorem Inv.freeze {p t : Nat} {xs : List AV} (hp : Γ.s p = ⟨t, .buf xs⟩) :
    let Γ' : G := { Γ with s := upd Γ.s p ⟨t, .frz xs⟩, S := fun b o => Γ.S b o ∨ (b = (Γ.φ p).blk ∧ (Γ.φ p).base ≤ o ∧ o < (Γ.φ p).base + xs.length) }
    Inv Γ' ∧ Ext Γ Γ' := by
  intro Γ'
  have he := hI.ent p
  unfold EntOk at he
  rw [hp] at he
  have hst : Stays Γ.S Γ.w Γ'.S Γ'.w := fun b o h => ⟨.inl h, rfl⟩
  have hrg : ∀ q b o, Rg Γ' q b o → Rg Γ q b o ∧ q ≠ p := fun q b o h => by
    unfold Rg at h ⊢
    by_cases hq : q = p
    · subst hq; simp [Γ'] at h
    · simp [Γ', upd_ne _ _ hq] at h; exact ⟨h, hq⟩
  refine ⟨⟨fun q => ?_, fun q r b o hqr h1 h2 => hI.apart q r b o hqr (hrg _ _ _ h1).1 (hrg _ _ _ h2).1, fun b o h => ?_⟩,
    hst, rfl, rfl, rfl, Nat.le_refl _, fun _ _ _ => rfl, fun _ _ _ _ => rfl, fun _ _ _ _ => rfl, fun b o h => ?_, fun q b o h => .inl ⟨q, (hrg _ _ _ h).1⟩, fun q => ?_, fun q u ys hu h => ?_, fun q u e hu h => ?_⟩
  · unfold EntOk
    by_cases hq : q = p
    · subst hq
      simp only [Γ', upd_same, EntC]
      refine (VC_iff _ _ _).2 fun i x hx => ⟨.inr ⟨rfl, by omega, ?_⟩, ?_⟩
      · have : i < xs.length := by
          rcases Nat.lt_or_ge i xs.length with h | h
          · exact h
          · rw [List.getElem?_eq_none h] at hx; cases hx
        omega
      · obtain ⟨v, h1, h2, h3⟩ := he.2.2.1 i x hx
        exact ⟨v, h1, h2, V0.mono hst _ _ h3⟩
    · have hq' := hI.ent q
      unfold EntOk at hq'
      simp only [Γ', upd_ne _ _ hq]
      unfold EntC at hq' ⊢
      split at hq'
      · trivial
      · exact ⟨hq'.1, hq'.2.1, fun i x hx => by obtain ⟨v, h1, h2, h3⟩ := hq'.2.2.1 i x hx; exact ⟨v, h1, h2, V0.mono hst _ _ h3⟩, hq'.2.2.2⟩
      · exact VC.mono hst _ _ _ hq'
      · exact hq'
  · rcases h with h | ⟨rfl, h1, h2⟩
    · exact ⟨(hI.stay b o h).1, fun q hq => (hI.stay b o h).2 q (hrg _ _ _ hq).1⟩
    · refine ⟨he.1, fun q hq => ?_⟩
      obtain ⟨h3, h4⟩ := hrg _ _ _ hq
      exact hI.apart q p _ o h4 h3 (by unfold Rg; rw [hp])
  · rcases h with h | ⟨rfl, h1, h2⟩
    · exact .inl h
    · exact .inr (.inl ⟨p, by unfold Rg; rw [hp]⟩)
  · by_cases hq : q = p
    · subst hq; simp [Γ', hp]
    · simp [Γ', upd_ne _ _ hq]
  · by_cases hq : q = p
    · subst hq
      rcases cellsAt_cases h with h' | h' <;> simp [Γ'] at h'
      obtain ⟨rfl, rfl⟩ := h'
      exact ⟨⟨xs, by simp [cellsAt, hp], rfl⟩, rfl⟩
    · refine ⟨⟨ys, ?_, rfl⟩, rfl⟩
      unfold cellsAt at h ⊢
      simpa [Γ', upd_ne _ _ hq] using h
  · by_cases hq : q = p
    · subst hq; simp [Γ'] at h
    · simpa [Γ', upd_ne _ _ hq] using h

/-- An entry that is dead from here on. -/
theorem Inv.kill {p t : Nat} (ht : (Γ.s p).t ≤ t) :
    Inv { Γ with s := upd Γ.s p ⟨t, .dead⟩ } ∧ Ext Γ { Γ with s := upd Γ.s p ⟨t, .dead⟩ } := by
  have hrg : ∀ q b o, Rg { Γ with s := upd Γ.s p ⟨t, .dead⟩ } q b o → Rg Γ q b o := fun q b o h => by
    unfold Rg at h ⊢
    by_cases hq : q = p
    · subst hq; simp at h
    · simpa [upd_ne _ _ hq] using h
  refine ⟨⟨fun q => ?_, fun q r b o hqr h1 h2 => hI.apart q r b o hqr (hrg _ _ _ h1) (hrg _ _ _ h2), fun b o h => ⟨(hI.stay b o h).1, fun q hq => (hI.stay b o h).2 q (hrg _ _ _ hq)⟩⟩,
    .refl _ _, rfl, rfl, rfl, Nat.le_refl _, fun _ _ _ => rfl, fun _ _ _ _ => rfl, fun _ _ _ _ => rfl, fun _ _ h => .inl h, fun q b o h => .inl ⟨q, hrg _ _ _ h⟩, fun q => ?_, fun q u ys hu h => ?_, fun q u e hu h => ?_⟩
  · unfold EntOk
    by_cases hq : q = p
    · subst hq; simp [EntC]
    · simp only [upd_ne _ _ hq]; exact hI.ent q
  · by_cases hq : q = p
    · subst hq; simpa using ht
    · simp [upd_ne _ _ hq]
  · by_cases hq : q = p
    · subst hq; rcases cellsAt_cases h with h' | h' <;> simp at h'
    · refine ⟨⟨ys, ?_, rfl⟩, rfl⟩
      unfold cellsAt at h ⊢
      simpa [upd_ne _ _ hq] using h
  · by_cases hq : q = p
    · subst hq; simp at h
    · simpa [upd_ne _ _ hq] using h

/-- A token for no room at all. -/
theorem Inv.tok0 {d t e : Nat} (ht : (Γ.s d).t < t) :
    let Γ' : G := { Γ with φ := upd Γ.φ d ⟨0, 0, 0⟩, s := upd Γ.s d ⟨t, .tok e⟩ }
    Inv Γ' ∧ Ext Γ Γ' := by
  intro Γ'
  have hrg : ∀ q b o, Rg Γ' q b o → Rg Γ q b o := fun q b o h => by
    unfold Rg at h ⊢
    by_cases hq : q = d
    · subst hq; simp [Γ'] at h
    · simpa [Γ', upd_ne _ _ hq] using h
  refine ⟨⟨fun q => ?_, fun q r b o hqr h1 h2 => hI.apart q r b o hqr (hrg _ _ _ h1) (hrg _ _ _ h2), fun b o h => ⟨(hI.stay b o h).1, fun q hq => (hI.stay b o h).2 q (hrg _ _ _ hq)⟩⟩,
    .refl _ _, rfl, rfl, rfl, Nat.le_refl _, fun _ _ _ => rfl, fun _ _ _ _ => rfl, fun _ _ _ _ => rfl, fun _ _ h => .inl h, fun q b o h => .inl ⟨q, hrg _ _ _ h⟩, fun q => ?_, fun q u ys hu h => ?_, fun q u e hu h => ?_⟩
  · unfold EntOk
    by_cases hq : q = d
    · subst hq; simp [EntC, Γ']
    · simp only [Γ', upd_ne _ _ hq]; exact hI.ent q
  · by_cases hq : q = d
    · subst hq; simp [Γ']; omega
    · simp [Γ', upd_ne _ _ hq]
  · by_cases hq : q = d
    · subst hq; rcases cellsAt_cases h with h' | h' <;> simp [Γ'] at h'
    · refine ⟨⟨ys, ?_, rfl⟩, by simp [Γ', upd_ne _ _ hq]⟩
      unfold cellsAt at h ⊢
      simpa [Γ', upd_ne _ _ hq] using h
  · by_cases hq : q = d
    · subst hq; simp [Γ'] at h; omega
    · refine ⟨by simpa [Γ', upd_ne _ _ hq] using h, by simp [Γ', upd_ne _ _ hq]⟩

/-- A new row, the first cells of which stay, with the room behind them as entry d's. -/
theorem Inv.allocTok {d t e : Nat} (ht : (Γ.s d).t < t) (arr : Array Value) (ty : TypeId) (xs : List AV) (vs : List Value) (hv : VL Γ.S Γ.w xs vs) (rest : List Value) (ha : arr.toList = vs ++ rest) :
    let Γ' : G := { φ := upd Γ.φ d ⟨Γ.w.heap.size, xs.length, rest.length⟩, s := upd Γ.s d ⟨t, .tok e⟩, S := fun b o => Γ.S b o ∨ (b = Γ.w.heap.size ∧ o < xs.length), w := Γ.w.alloc (.cells arr ty) }
    Inv Γ' ∧ Ext Γ Γ' ∧ VC Γ'.S Γ'.w xs Γ.w.heap.size 0 := by
  intro Γ'
  have hst : Stays Γ.S Γ.w Γ'.S Γ'.w := fun b o h => ⟨.inl h, World.cell?_alloc_lt _ _ _ (hI.stay b o h).1⟩
  have hlen : xs.length = vs.length := ((VL_iff _ _).1 hv).1
  have hcell : ∀ i v, arr.toList[i]? = some v → Γ'.w.cell? ⟨Γ.w.heap.size, i, none⟩ = some v := fun i v h => by
    show (Γ.w.alloc _).cell? _ = _
    rw [World.cell?_alloc_new]; simpa using h
  have hold : ∀ p, p ≠ d → ∀ b o, Rg Γ' p b o ↔ Rg Γ p b o := fun p hp b o => by
    unfold Rg; simp only [Γ', upd_ne _ _ hp]
  have hnew : ∀ b o, Rg Γ' d b o → b = Γ.w.heap.size ∧ xs.length ≤ o := fun b o h => by
    unfold Rg at h; simp [Γ', upd_same] at h; exact ⟨h.1, h.2.1⟩
  have hvc : VC Γ'.S Γ'.w xs Γ.w.heap.size 0 := (VC_iff _ _ _).2 fun i x hx => by
    obtain ⟨v, h1, h2, h3⟩ := ((VL_iff _ _).1 hv).2 i x hx
    have hi : i < vs.length := by
      rcases Nat.lt_or_ge i vs.length with h' | h'
      · exact h'
      · rw [List.getElem?_eq_none h'] at h1; cases h1
    refine ⟨.inr ⟨rfl, by omega⟩, v, ?_, h2, V0.mono hst _ _ h3⟩
    rw [Nat.zero_add]
    refine hcell i v ?_
    rw [ha, List.getElem?_append_left hi]; exact h1
  refine ⟨⟨fun p => ?_, fun p q b o hpq hp hq => ?_, fun b o h => ⟨?_, fun p hp => ?_⟩⟩, ⟨hst, rfl, rfl, rfl, ?_, ?_, ?_, fun b o hb _ => World.frozen?_alloc_old _ _ _ (Nat.ne_of_lt hb), fun b o h => ?_, ?_, ?_, ?_, ?_⟩, hvc⟩
  · by_cases hp : p = d
    · subst hp
      unfold EntOk
      simp only [Γ', upd_same, EntC]
      intro i hi
      refine ⟨⟨rest[i], hcell _ _ ?_⟩, World.frozen?_alloc_new _ _ _ _⟩
      rw [ha, hlen, List.getElem?_append_right (by omega), Nat.add_sub_cancel_left]
      exact List.getElem?_eq_getElem hi
    · have he := hI.ent p
      unfold EntOk at he ⊢
      simp only [Γ', upd_ne _ _ hp]
      unfold EntC at he ⊢
      split at he
      · trivial
      · rename_i ys hy
        have hb := he.1
        refine ⟨by simp; omega, fun o => ?_, fun i x hx => ?_, fun i hi => ?_⟩
        · rw [World.frozen?_alloc_old _ _ _ (Nat.ne_of_lt hb)]; exact he.2.1 o
        · obtain ⟨v, h1, h2, h3⟩ := he.2.2.1 i x hx
          exact ⟨v, cell_alloc_old h1, h2, V0.mono hst _ _ h3⟩
        · obtain ⟨v, h1⟩ := he.2.2.2 i hi
          exact ⟨v, cell_alloc_old h1⟩
      · exact VC.mono hst _ _ _ he
      · intro i hi
        obtain ⟨⟨v, h1⟩, h2⟩ := he i hi
        refine ⟨⟨v, cell_alloc_old h1⟩, ?_⟩
        rw [World.frozen?_alloc_old _ _ _ (Nat.ne_of_lt (World.block_lt_of_cell? _ _ h1))]; exact h2
  · by_cases hpd : p = d
    · subst hpd
      have h1 := (hnew b o hp).1
      have h2 := hI.blk ((hold q (Ne.symm hpq) b o).1 hq)
      omega
    · by_cases hqd : q = d
      · subst hqd
        have h1 := (hnew b o hq).1
        have h2 := hI.blk ((hold p hpd b o).1 hp)
        omega
      · exact hI.apart p q b o hpq ((hold p hpd b o).1 hp) ((hold q hqd b o).1 hq)
  · show b < (Γ.w.alloc _).heap.size
    rcases h with h | ⟨rfl, _⟩
    · have := (hI.stay b o h).1
      simp; omega
    · simp
  · by_cases hpd : p = d
    · subst hpd
      obtain ⟨h1, h2⟩ := hnew b o hp
      rcases h with h | ⟨_, h3⟩
      · have := (hI.stay b o h).1; omega
      · omega
    · have h1 := (hold p hpd b o).1 hp
      rcases h with h | ⟨rfl, _⟩
      · exact (hI.stay b o h).2 p h1
      · have := hI.blk h1; omega
  · show _ ≤ (Γ.w.alloc _).heap.size
    simp
  · intro b hb _
    show (Γ.w.heap.push _)[b]? = _
    rw [Array.getElem?_push, if_neg (by omega)]
  · intro b o hb _
    exact World.cell?_alloc_lt _ _ _ hb
  · rcases h with h | ⟨rfl, _⟩
    · exact .inl h
    · exact .inr (.inr (Nat.le_refl _))
  · intro p b o hp
    by_cases hpd : p = d
    · subst hpd; have := (hnew b o hp).1; exact .inr (by omega)
    · exact .inl ⟨p, (hold p hpd b o).1 hp⟩
  · intro p
    by_cases hpd : p = d
    · subst hpd; simp [Γ']; omega
    · simp [Γ', upd_ne _ _ hpd]
  · intro p u ys hu hc
    by_cases hpd : p = d
    · subst hpd
      rcases cellsAt_cases hc with h | h <;> simp [Γ'] at h
    · refine ⟨⟨ys, ?_, rfl⟩, by simp [Γ', upd_ne _ _ hpd]⟩
      unfold cellsAt at hc ⊢
      simpa [Γ', upd_ne _ _ hpd] using hc
  · intro p u e hu hc
    by_cases hpd : p = d
    · subst hpd; simp [Γ'] at hc; omega
    · refine ⟨by simpa [Γ', upd_ne _ _ hpd] using hc, by simp [Γ', upd_ne _ _ hpd]⟩

/-- A new row, all of whose first cells stay. -/
theorem Inv.row {w' : World} (hos : w'.os = Γ.w.os) (htape : w'.tape = Γ.w.tape) (hout : w'.output = Γ.w.output) (hsize : w'.heap.size = Γ.w.heap.size + 1)
    (hold : ∀ k, k < Γ.w.heap.size → w'.heap[k]? = Γ.w.heap[k]?) (xs : List AV) (vs : List Value) (hv : VL Γ.S Γ.w xs vs)
    (hcell : ∀ (i : Nat) (v : Value), vs[i]? = some v → w'.cell? ⟨Γ.w.heap.size, i, none⟩ = some v) :
    ∃ Γ' : G, Γ'.s = Γ.s ∧ Γ'.w = w' ∧ Inv Γ' ∧ Ext Γ Γ' ∧ VC Γ'.S Γ'.w xs Γ.w.heap.size 0 := by
  let Γ' : G := { Γ with S := fun b o => Γ.S b o ∨ (b = Γ.w.heap.size ∧ o < xs.length), w := w' }
  have hst : Stays Γ.S Γ.w Γ'.S Γ'.w := fun b o h => ⟨.inl h, cell_of_block (hold b (hI.stay b o h).1) o⟩
  have hlen : xs.length = vs.length := ((VL_iff _ _).1 hv).1
  have hlt : ∀ {b o v}, Γ.w.cell? ⟨b, o, none⟩ = some v → b < Γ.w.heap.size := fun h => World.block_lt_of_cell? _ _ h
  have hvc : VC Γ'.S Γ'.w xs Γ.w.heap.size 0 := (VC_iff _ _ _).2 fun i x hx => by
    obtain ⟨v, h1, h2, h3⟩ := ((VL_iff _ _).1 hv).2 i x hx
    have hi : i < vs.length := by
      rcases Nat.lt_or_ge i vs.length with h' | h'
      · exact h'
      · rw [List.getElem?_eq_none h'] at h1; cases h1
    refine ⟨.inr ⟨rfl, by omega⟩, v, ?_, h2, V0.mono hst _ _ h3⟩
    rw [Nat.zero_add]
    exact hcell i v h1
  refine ⟨Γ', rfl, rfl, ⟨fun p => ?_, hI.apart, fun b o h => ⟨?_, fun p hp => ?_⟩⟩, ⟨hst, hos, htape, hout, ?_, ?_, ?_, fun b o hb _ => frozen_of_block (hold b hb) o, fun b o h => ?_, fun p b o h => .inl ⟨p, h⟩, fun _ => Nat.le_refl _, fun _ _ xs _ h => ⟨⟨xs, h, rfl⟩, rfl⟩, fun _ _ _ _ h => ⟨h, rfl⟩⟩, hvc⟩
  · have he := hI.ent p
    unfold EntOk at he ⊢
    show EntC (Γ.φ p) Γ'.S Γ'.w (Γ.s p).c
    unfold EntC at he ⊢
    split at he
    · trivial
    · rename_i ys hy
      have hb := he.1
      refine ⟨by show _ < w'.heap.size; omega, fun o => ?_, fun i x hx => ?_, fun i hi => ?_⟩
      · show w'.frozen? _ = _
        rw [frozen_of_block (hold _ hb)]; exact he.2.1 o
      · obtain ⟨v, h1, h2, h3⟩ := he.2.2.1 i x hx
        exact ⟨v, (cell_of_block (hold _ hb) _).trans h1, h2, V0.mono hst _ _ h3⟩
      · obtain ⟨v, h1⟩ := he.2.2.2 i hi
        exact ⟨v, (cell_of_block (hold _ hb) _).trans h1⟩
    · exact VC.mono hst _ _ _ he
    · intro i hi
      obtain ⟨⟨v, h1⟩, h2⟩ := he i hi
      have hb := hlt h1
      refine ⟨⟨v, (cell_of_block (hold _ hb) _).trans h1⟩, ?_⟩
      show w'.frozen? _ = _
      rw [frozen_of_block (hold _ hb)]; exact h2
  · show b < w'.heap.size
    rcases h with h | ⟨rfl, _⟩
    · have := (hI.stay b o h).1
      omega
    · omega
  · rcases h with h | ⟨rfl, _⟩
    · exact (hI.stay b o h).2 p hp
    · have := hI.blk (p := p) (b := Γ.w.heap.size) (o := o) hp; omega
  · show _ ≤ w'.heap.size
    omega
  · intro b hb _
    exact hold b hb
  · intro b o hb _
    exact cell_of_block (hold b hb) o
  · rcases h with h | ⟨rfl, _⟩
    · exact .inl h
    · exact .inr (.inr (Nat.le_refl _))
end
end Go.Ab
