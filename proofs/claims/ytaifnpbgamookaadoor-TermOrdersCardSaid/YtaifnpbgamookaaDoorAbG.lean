/- The state of a run beside its abstract state: which block stands behind which entry, which cells stay; what one step may turn. No conditions. -/
import Derived.Test.YtaifnpbgamookaaDoorAbV
namespace Go.Ab

structure Ph where
  blk : Nat
  base : Nat
  spare : Nat

structure G where
  φ : Nat → Ph
  s : St
  S : Nat → Nat → Prop
  w : World

/-- The cells that entry p may write. -/
def Rg (Γ : G) (p b o : Nat) : Prop :=
  match (Γ.s p).c with
  | .buf _ => b = (Γ.φ p).blk
  | .tok _ => b = (Γ.φ p).blk ∧ (Γ.φ p).base ≤ o ∧ o < (Γ.φ p).base + (Γ.φ p).spare
  | _ => False

def EntC (φ : Ph) (S : Nat → Nat → Prop) (w : World) : Cell → Prop
  | .dead => True
  | .buf xs => φ.blk < w.heap.size ∧ (∀ o, w.frozen? ⟨φ.blk, o, none⟩ = false) ∧
      (∀ (i : Nat) (x : AV), xs[i]? = some x → ∃ v, w.cell? ⟨φ.blk, φ.base + i, none⟩ = some v ∧ v.oneCell' = true ∧ V0 S w x v) ∧
      (∀ i, i < φ.spare → ∃ v, w.cell? ⟨φ.blk, φ.base + xs.length + i, none⟩ = some v)
  | .frz xs => VC S w xs φ.blk φ.base
  | .tok _ => ∀ i, i < φ.spare → (∃ v, w.cell? ⟨φ.blk, φ.base + i, none⟩ = some v) ∧ w.frozen? ⟨φ.blk, φ.base + i, none⟩ = false
def EntOk (Γ : G) (p : Nat) : Prop := EntC (Γ.φ p) Γ.S Γ.w (Γ.s p).c

structure Inv (Γ : G) : Prop where
  ent : ∀ p, EntOk Γ p
  apart : ∀ p q b o, p ≠ q → Rg Γ p b o → ¬ Rg Γ q b o
  stay : ∀ b o, Γ.S b o → b < Γ.w.heap.size ∧ ∀ p, ¬ Rg Γ p b o

structure Ext (Γ Γ' : G) : Prop where
  stays : Stays Γ.S Γ.w Γ'.S Γ'.w
  os : Γ'.w.os = Γ.w.os
  tape : Γ'.w.tape = Γ.w.tape
  output : Γ'.w.output = Γ.w.output
  size : Γ.w.heap.size ≤ Γ'.w.heap.size
  block : ∀ b, b < Γ.w.heap.size → (∀ p o, ¬ Rg Γ p b o) → Γ'.w.heap[b]? = Γ.w.heap[b]?
  cell : ∀ b o, b < Γ.w.heap.size → (∀ p, ¬ Rg Γ p b o) → Γ'.w.cell? ⟨b, o, none⟩ = Γ.w.cell? ⟨b, o, none⟩
  frzn : ∀ b o, b < Γ.w.heap.size → (∀ p, ¬ Rg Γ p b o) → Γ'.w.frozen? ⟨b, o, none⟩ = Γ.w.frozen? ⟨b, o, none⟩
  newS : ∀ b o, Γ'.S b o → Γ.S b o ∨ (∃ p, Rg Γ p b o) ∨ Γ.w.heap.size ≤ b
  newR : ∀ p b o, Rg Γ' p b o → (∃ q, Rg Γ q b o) ∨ Γ.w.heap.size ≤ b
  ser : ∀ p, (Γ.s p).t ≤ (Γ'.s p).t
  bf : ∀ p t xs', t ≤ (Γ.s p).t → cellsAt Γ'.s p t = some xs' → (∃ xs, cellsAt Γ.s p t = some xs ∧ xs'.length = xs.length) ∧ Γ'.φ p = Γ.φ p
  tk : ∀ p t e, t ≤ (Γ.s p).t → Γ'.s p = ⟨t, .tok e⟩ → Γ.s p = ⟨t, .tok e⟩ ∧ Γ'.φ p = Γ.φ p

theorem Ext.refl (Γ : G) : Ext Γ Γ :=
  ⟨.refl _ _, rfl, rfl, rfl, Nat.le_refl _, fun _ _ _ => rfl, fun _ _ _ _ => rfl, fun _ _ _ _ => rfl, fun _ _ h => .inl h, fun p _ _ h => .inl ⟨p, h⟩, fun _ => Nat.le_refl _,
    fun _ _ xs _ h => ⟨⟨xs, h, rfl⟩, rfl⟩, fun _ _ _ _ h => ⟨h, rfl⟩⟩

theorem Ext.trans {Γ Γ' Γ'' : G} (h : Ext Γ Γ') (k : Ext Γ' Γ'') : Ext Γ Γ'' where
  stays := h.stays.trans k.stays
  os := k.os.trans h.os
  tape := k.tape.trans h.tape
  output := k.output.trans h.output
  size := Nat.le_trans h.size k.size
  block := fun b hb hn => (k.block b (Nat.lt_of_lt_of_le hb h.size) fun p o hr => by
    rcases h.newR p b o hr with ⟨q, hq⟩ | hq
    · exact hn q o hq
    · omega).trans (h.block b hb hn)
  cell := fun b o hb hn => (k.cell b o (Nat.lt_of_lt_of_le hb h.size) fun p hr => by
    rcases h.newR p b o hr with ⟨q, hq⟩ | hq
    · exact hn q hq
    · omega).trans (h.cell b o hb hn)
  frzn := fun b o hb hn => (k.frzn b o (Nat.lt_of_lt_of_le hb h.size) fun p hr => by
    rcases h.newR p b o hr with ⟨q, hq⟩ | hq
    · exact hn q hq
    · omega).trans (h.frzn b o hb hn)
  newS := fun b o hs => by
    rcases k.newS b o hs with hs | ⟨p, hp⟩ | hs
    · exact h.newS b o hs
    · rcases h.newR p b o hp with hq | hq
      · exact .inr (.inl hq)
      · exact .inr (.inr hq)
    · exact .inr (.inr (Nat.le_trans h.size hs))
  newR := fun p b o hr => by
    rcases k.newR p b o hr with ⟨q, hq⟩ | hq
    · exact h.newR q b o hq
    · exact .inr (Nat.le_trans h.size hq)
  ser := fun p => Nat.le_trans (h.ser p) (k.ser p)
  bf := fun p t xs ht hc => by
    obtain ⟨⟨ys, hy, hl⟩, he⟩ := k.bf p t xs (Nat.le_trans ht (h.ser p)) hc
    obtain ⟨⟨zs, hz, hl'⟩, he'⟩ := h.bf p t ys ht hy
    exact ⟨⟨zs, hz, hl.trans hl'⟩, he.trans he'⟩
  tk := fun p t e ht hc => by
    obtain ⟨h1, he⟩ := k.tk p t e (Nat.le_trans ht (h.ser p)) hc
    obtain ⟨h2, he'⟩ := h.tk p t e ht h1
    exact ⟨h2, he.trans he'⟩

/-- An abstract value and a value. -/
def V (Γ : G) : AV → Value → Prop
  | .own p t off len e, v => t ≤ (Γ.s p).t ∧ ∀ xs, cellsAt Γ.s p t = some xs → ∃ cap, v = .slice (some ⟨(Γ.φ p).blk, (Γ.φ p).base + off, none⟩) len cap ∧ len ≤ cap ∧
      off + cap * e ≤ xs.length + (Γ.φ p).spare
  | .ptr p t off, v => t ≤ (Γ.s p).t ∧ ∀ xs, cellsAt Γ.s p t = some xs → v = .pointer (some ⟨(Γ.φ p).blk, (Γ.φ p).base + off, none⟩)
  | .sl xs len (.tok p t), v => V0 Γ.S Γ.w (.sl xs len .loose) v ∧ t ≤ (Γ.s p).t ∧ ∀ e, Γ.s p = ⟨t, .tok e⟩ → ∃ a cap, v = .slice a len cap ∧
      (Γ.φ p).spare = (cap - len) * e ∧ (len < cap → ∃ o, a = some ⟨(Γ.φ p).blk, o, none⟩ ∧ o + xs.length = (Γ.φ p).base)
  | x, v => V0 Γ.S Γ.w x v

theorem V.of0 {Γ : G} {x : AV} {v : Value} (h : V0 Γ.S Γ.w x v) (hx : isTree x = true) : V Γ x v := by
  unfold V
  split
  · simp [isTree] at hx
  · simp [isTree] at hx
  · simp [isTree] at hx
  · exact h
theorem V.to0 {Γ : G} {x : AV} {v : Value} (h : V Γ x v) (hx : isTree x = true) : V0 Γ.S Γ.w x v := by
  unfold V at h
  split at h
  · simp [isTree] at hx
  · simp [isTree] at hx
  · simp [isTree] at hx
  · exact h

theorem V.ext {Γ Γ' : G} (h : Ext Γ Γ') {x : AV} {v : Value} (k : V Γ x v) : V Γ' x v := by
  unfold V at k ⊢
  split at k
  · rename_i p t off len e
    obtain ⟨ht, hk⟩ := k
    refine ⟨Nat.le_trans ht (h.ser p), fun xs' hc => ?_⟩
    obtain ⟨⟨xs, hx, hl⟩, he⟩ := h.bf p t xs' ht hc
    rw [he, hl]
    exact hk xs hx
  · rename_i p t off
    obtain ⟨ht, hk⟩ := k
    refine ⟨Nat.le_trans ht (h.ser p), fun xs' hc => ?_⟩
    obtain ⟨⟨xs, hx, _⟩, he⟩ := h.bf p t xs' ht hc
    rw [he]
    exact hk xs hx
  · rename_i xs len p t
    obtain ⟨h0, ht, hk⟩ := k
    refine ⟨V0.mono h.stays _ _ h0, Nat.le_trans ht (h.ser p), fun e hc => ?_⟩
    obtain ⟨he, hp⟩ := h.tk p t e ht hc
    rw [hp]
    exact hk e he
  · exact V0.mono h.stays _ _ k

/-- What can be read behind a handle. -/
theorem cellsAt_cases {s : St} {p t : Nat} {xs : List AV} (h : cellsAt s p t = some xs) : s p = ⟨t, .buf xs⟩ ∨ s p = ⟨t, .frz xs⟩ := by
  unfold cellsAt at h
  split at h
  · rename_i t' ys he
    split at h
    · rename_i hq; subst hq; cases h; exact .inl he
    · cases h
  · rename_i t' ys he
    split at h
    · rename_i hq; subst hq; cases h; exact .inr he
    · cases h
  · cases h
theorem Inv.read {Γ : G} (hI : Inv Γ) {p t : Nat} {xs : List AV} (h : cellsAt Γ.s p t = some xs) :
    ∀ (i : Nat) (x : AV), xs[i]? = some x → ∃ v, Γ.w.cell? ⟨(Γ.φ p).blk, (Γ.φ p).base + i, none⟩ = some v ∧ v.oneCell' = true ∧ V0 Γ.S Γ.w x v := by
  have he := hI.ent p
  unfold EntOk at he
  rcases cellsAt_cases h with h | h
  · rw [h] at he; exact he.2.2.1
  · rw [h] at he; exact fun i x hx => ((VC_iff _ _ _).1 he i x hx).2

@[simp] theorem upd_same {α : Type} (f : Nat → α) (i : Nat) (v : α) : upd f i v i = v := by simp [upd]
theorem upd_ne {α : Type} (f : Nat → α) {i j : Nat} (v : α) (h : j ≠ i) : upd f i v j = f j := by simp [upd, h]

/-! ### Steps -/
section
variable {Γ : G} (hI : Inv Γ)
include hI

theorem Inv.drew : Inv { Γ with w := Γ.w.drew } ∧ Ext Γ { Γ with w := Γ.w.drew } := by
  have hst : Stays Γ.S Γ.w Γ.S Γ.w.drew := fun b o h => ⟨h, rfl⟩
  refine ⟨⟨fun p => ?_, hI.apart, hI.stay⟩, hst, rfl, rfl, rfl, Nat.le_refl _, fun _ _ _ => rfl, fun _ _ _ _ => rfl, fun _ _ _ _ => rfl, fun _ _ h => .inl h, fun p _ _ h => .inl ⟨p, h⟩,
    fun _ => Nat.le_refl _, fun _ _ xs _ h => ⟨⟨xs, h, rfl⟩, rfl⟩, fun _ _ _ _ h => ⟨h, rfl⟩⟩
  have he := hI.ent p
  unfold EntOk EntC at he ⊢
  dsimp only at he ⊢
  split at he
  · trivial
  · refine ⟨he.1, he.2.1, fun i x hx => ?_, he.2.2.2⟩
    obtain ⟨v, h1, h2, h3⟩ := he.2.2.1 i x hx
    exact ⟨v, h1, h2, V0.mono hst _ _ h3⟩
  · exact VC.mono hst _ _ _ he
  · exact he

omit hI in
/-- Cells of an elder block are as they were. -/
theorem cell_alloc_old {o : Obj} {a : Addr} {v : Value} (h : Γ.w.cell? a = some v) : (Γ.w.alloc o).cell? a = some v := by
  rw [World.cell?_alloc_lt _ _ _ (World.block_lt_of_cell? _ _ h)]; exact h
omit hI in
theorem frozen_none {w : World} {b o : Nat} (h : w.heap.size ≤ b) : w.frozen? ⟨b, o, none⟩ = false := by
  unfold World.frozen?
  rw [Array.getElem?_eq_none h]

/-- A new block, that entry d writes. -/
theorem Inv.alloc {d : Nat} {t : Nat} (ht : (Γ.s d).t < t) (arr : Array Value) (ty : TypeId) (xs : List AV) (vs : List Value) (hv : VL Γ.S Γ.w xs vs) (rest : List Value) (ha : arr.toList = vs ++ rest) :
    let Γ' : G := { φ := upd Γ.φ d ⟨Γ.w.heap.size, 0, rest.length⟩, s := upd Γ.s d ⟨t, .buf xs⟩, S := Γ.S, w := Γ.w.alloc (.cells arr ty) }
    Inv Γ' ∧ Ext Γ Γ' := by
  intro Γ'
  have hst : Stays Γ.S Γ.w Γ'.S Γ'.w := fun b o h => ⟨h, World.cell?_alloc_lt _ _ _ (hI.stay b o h).1⟩
  have hlen : xs.length = vs.length := ((VL_iff _ _).1 hv).1
  have hcell : ∀ i v, arr.toList[i]? = some v → Γ'.w.cell? ⟨Γ.w.heap.size, i, none⟩ = some v := fun i v h => by
    show (Γ.w.alloc _).cell? _ = _
    rw [World.cell?_alloc_new]; simpa using h
  have hold : ∀ p, p ≠ d → ∀ b o, Rg Γ' p b o ↔ Rg Γ p b o := fun p hp b o => by
    unfold Rg; simp only [Γ', upd_ne _ _ hp]
  have hnew : ∀ b o, Rg Γ' d b o → b = Γ.w.heap.size := fun b o h => by
    unfold Rg at h; simpa [Γ', upd_same] using h
  have hlt : ∀ p b o, Rg Γ p b o → (∃ xs, (Γ.s p).c = .buf xs) ∨ (∃ e, (Γ.s p).c = .tok e) := fun p b o h => by
    unfold Rg at h; split at h
    · exact .inl ⟨_, by assumption⟩
    · exact .inr ⟨_, by assumption⟩
    · exact h.elim
  have hblk : ∀ p b o, Rg Γ p b o → b < Γ.w.heap.size := fun p b o h => by
    have he := hI.ent p
    unfold EntOk EntC at he
    unfold Rg at h
    split at h
    · rename_i ys hy; rw [hy] at he; rw [h]; exact he.1
    · rename_i e hy; rw [hy] at he
      obtain ⟨h1, h2, h3⟩ := h
      obtain ⟨⟨v, hv⟩, _⟩ := he (o - (Γ.φ p).base) (by omega)
      rw [h1]; exact World.block_lt_of_cell? _ _ hv
    · exact h.elim
  refine ⟨⟨fun p => ?_, fun p q b o hpq hp hq => ?_, fun b o h => ⟨?_, fun p hp => ?_⟩⟩, hst, rfl, rfl, rfl, ?_, ?_, ?_, fun b o hb _ => World.frozen?_alloc_old _ _ _ (Nat.ne_of_lt hb), fun _ _ h => .inl h, ?_, ?_, ?_, ?_⟩
  · by_cases hp : p = d
    · subst hp
      unfold EntOk
      simp only [Γ', upd_same, EntC]
      refine ⟨by simp, fun o => World.frozen?_alloc_new _ _ _ _, fun i x hx => ?_, fun i hi => ?_⟩
      · obtain ⟨v, h1, h2, h3⟩ := ((VL_iff _ _).1 hv).2 i x hx
        refine ⟨v, ?_, h2, V0.mono hst _ _ h3⟩
        rw [Nat.zero_add]
        refine hcell i v ?_
        rw [ha, List.getElem?_append_left]
        · exact h1
        · rcases Nat.lt_or_ge i vs.length with h' | h'
          · exact h'
          · rw [List.getElem?_eq_none h'] at h1; cases h1
      · refine ⟨rest[i], ?_⟩
        rw [Nat.zero_add]
        refine hcell _ _ ?_
        rw [ha, hlen, List.getElem?_append_right (by omega), Nat.add_sub_cancel_left]
        exact List.getElem?_eq_getElem hi
    · have he := hI.ent p
      unfold EntOk at he ⊢
      simp only [Γ', upd_ne _ _ hp]
      unfold EntC at he ⊢
      split at he
      · trivial
      · rename_i ys hy
        have hb := he.1
        refine ⟨by simp; omega, fun o => ?_, fun i x hx => ?_, fun i hi => ?_⟩
        · rw [World.frozen?_alloc_old _ _ _ (Nat.ne_of_lt hb)]; exact he.2.1 o
        · obtain ⟨v, h1, h2, h3⟩ := he.2.2.1 i x hx
          exact ⟨v, cell_alloc_old h1, h2, V0.mono hst _ _ h3⟩
        · obtain ⟨v, h1⟩ := he.2.2.2 i hi
          exact ⟨v, cell_alloc_old h1⟩
      · exact VC.mono hst _ _ _ he
      · intro i hi
        obtain ⟨⟨v, h1⟩, h2⟩ := he i hi
        refine ⟨⟨v, cell_alloc_old h1⟩, ?_⟩
        rw [World.frozen?_alloc_old _ _ _ (Nat.ne_of_lt (World.block_lt_of_cell? _ _ h1))]; exact h2
  · by_cases hpd : p = d
    · subst hpd
      have h1 := hnew b o hp
      have h2 := hblk q b o ((hold q (Ne.symm hpq) b o).1 hq)
      omega
    · by_cases hqd : q = d
      · subst hqd
        have h1 := hnew b o hq
        have h2 := hblk p b o ((hold p hpd b o).1 hp)
        omega
      · exact hI.apart p q b o hpq ((hold p hpd b o).1 hp) ((hold q hqd b o).1 hq)
  · have := (hI.stay b o h).1
    show b < (Γ.w.alloc _).heap.size
    simp; omega
  · have h1 := (hI.stay b o h).1
    by_cases hpd : p = d
    · subst hpd; have := hnew b o hp; omega
    · exact (hI.stay b o h).2 p ((hold p hpd b o).1 hp)
  · show _ ≤ (Γ.w.alloc _).heap.size
    simp
  · intro b hb _
    show (Γ.w.heap.push _)[b]? = _
    rw [Array.getElem?_push, if_neg (by omega)]
  · intro b o hb _
    exact World.cell?_alloc_lt _ _ _ hb
  · intro p b o hp
    by_cases hpd : p = d
    · subst hpd; have := hnew b o hp; exact .inr (by omega)
    · exact .inl ⟨p, (hold p hpd b o).1 hp⟩
  · intro p
    by_cases hpd : p = d
    · subst hpd; simp [Γ']; omega
    · simp [Γ', upd_ne _ _ hpd]
  · intro p u ys hu hc
    by_cases hpd : p = d
    · subst hpd
      rcases cellsAt_cases hc with h | h <;> simp [Γ'] at h
      omega
    · refine ⟨⟨ys, ?_, rfl⟩, by simp [Γ', upd_ne _ _ hpd]⟩
      unfold cellsAt at hc ⊢
      simpa [Γ', upd_ne _ _ hpd] using hc
  · intro p u e hu hc
    by_cases hpd : p = d
    · subst hpd; simp [Γ'] at hc
    · simpa [Γ', upd_ne _ _ hpd] using hc

/-- A region lies in blocks that are there. -/
theorem Inv.blk {p b o : Nat} (h : Rg Γ p b o) : b < Γ.w.heap.size := by
  have he := hI.ent p
  unfold EntOk EntC at he
  unfold Rg at h
  split at h
  · rename_i ys hy; rw [hy] at he; rw [h]; exact he.1
  · rename_i e hy; rw [hy] at he
    obtain ⟨h1, h2, h3⟩ := h
    obtain ⟨⟨v, hv⟩, _⟩ := he (o - (Γ.φ p).base) (by omega)
    rw [h1]; exact World.block_lt_of_cell? _ _ hv
  · exact h.elim
end
end Go.Ab
