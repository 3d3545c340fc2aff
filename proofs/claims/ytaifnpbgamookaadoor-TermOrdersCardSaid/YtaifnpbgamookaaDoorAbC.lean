/- The state behind a call: what the callee left, put together with what the caller kept. No conditions. -/
import Derived.Test.YtaifnpbgamookaaDoorAbZ
namespace Go.Ab

/-- The callee's state at its beginning: some entries are the caller's. -/
structure Lent (Γ1 Γc : G) (J : Nat → Option Nat) : Prop where
  S : Γc.S = Γ1.S
  w : Γc.w = Γ1.w
  here : ∀ j p, J j = some p → (Γc.s j).c = (Γ1.s p).c ∧ Γc.φ j = Γ1.φ p
  none : ∀ j, J j = none → (Γc.s j).c = .dead
  inj : ∀ j k p, J j = some p → J k = some p → j = k

theorem Lent.rg {Γ1 Γc : G} {J : Nat → Option Nat} (h : Lent Γ1 Γc J) {j b o : Nat} (hr : Rg Γc j b o) : ∃ p, J j = some p ∧ Rg Γ1 p b o := by
  cases hj : J j with
  | none => unfold Rg at hr; rw [h.none j hj] at hr; exact hr.elim
  | some p =>
    obtain ⟨h1, h2⟩ := h.here j p hj
    refine ⟨p, rfl, ?_⟩
    unfold Rg at hr ⊢
    rw [h1, h2] at hr
    exact hr

theorem Lent.inv {Γ1 Γc : G} {J : Nat → Option Nat} (h : Lent Γ1 Γc J) (hI : Inv Γ1) : Inv Γc := by
  refine ⟨fun j => ?_, fun j k b o hjk hj hk => ?_, fun b o hs => ?_⟩
  · unfold EntOk
    rw [h.S, h.w]
    cases hj : J j with
    | none => rw [h.none j hj]; simp [EntC]
    | some p =>
      obtain ⟨h1, h2⟩ := h.here j p hj
      rw [h1, h2]; exact hI.ent p
  · obtain ⟨p, hp, h1⟩ := h.rg hj
    obtain ⟨q, hq, h2⟩ := h.rg hk
    exact hI.apart p q b o (fun e => hjk (h.inj j k p hp (e ▸ hq))) h1 h2
  · rw [h.S] at hs
    obtain ⟨h1, h2⟩ := hI.stay b o hs
    refine ⟨by rw [h.w]; exact h1, fun j hj => ?_⟩
    obtain ⟨p, _, h3⟩ := h.rg hj
    exact h2 p h3

/-- The caller's state behind the call: an entry is kept, or the callee's, or dead. -/
structure Mix (Γ1 Γ' Γ3 : G) (J : Nat → Option Nat) (C : Nat → Option Nat) : Prop where
  S : Γ3.S = Γ'.S
  w : Γ3.w = Γ'.w
  ser : ∀ q, (Γ1.s q).t ≤ (Γ3.s q).t
  kept : ∀ q, C q = none → ((Γ3.s q).c = .dead ∧ True) ∨ (Γ3.s q = Γ1.s q ∧ Γ3.φ q = Γ1.φ q ∧ ∀ j, J j ≠ some q)
  mine : ∀ q j, C q = some j → (Γ3.s q).c = (Γ'.s j).c ∧ Γ3.φ q = Γ'.φ j
  inj : ∀ q r j, C q = some j → C r = some j → q = r
  old : ∀ q j, C q = some j → (Γ1.s q).t < (Γ3.s q).t ∨ (J j = some q ∧ (Γ3.s q).t = (Γ1.s q).t ∧ ∃ xs, Γ'.s j = ⟨0, .buf xs⟩)

theorem Mix.ok {Γ1 Γc Γ' Γ3 : G} {J C : Nat → Option Nat} (hI : Inv Γ1) (hL : Lent Γ1 Γc J) (hI' : Inv Γ') (hE : Ext Γc Γ') (hM : Mix Γ1 Γ' Γ3 J C) : Inv Γ3 ∧ Ext Γ1 Γ3 := by
  have hst : Stays Γ1.S Γ1.w Γ3.S Γ3.w := by
    have := hE.stays
    rw [hL.S, hL.w] at this
    rw [hM.S, hM.w]; exact this
  have hsz : Γ1.w.heap.size ≤ Γ3.w.heap.size := by have := hE.size; rw [hL.w] at this; rw [hM.w]; exact this
  have hnoc : ∀ {b o}, (∀ p, ¬ Rg Γ1 p b o) → ∀ j, ¬ Rg Γc j b o := fun h j hj => by
    obtain ⟨p, _, hp⟩ := hL.rg hj
    exact h p hp
  have hcell : ∀ b o, b < Γ1.w.heap.size → (∀ j, ¬ Rg Γc j b o) → Γ3.w.cell? ⟨b, o, none⟩ = Γ1.w.cell? ⟨b, o, none⟩ := fun b o hb h => by
    have := hE.cell b o (by rw [hL.w]; exact hb) h
    rw [hL.w] at this; rw [hM.w]; exact this
  have hfrz : ∀ b o, b < Γ1.w.heap.size → (∀ j, ¬ Rg Γc j b o) → Γ3.w.frozen? ⟨b, o, none⟩ = Γ1.w.frozen? ⟨b, o, none⟩ := fun b o hb h => by
    have := hE.frzn b o (by rw [hL.w]; exact hb) h
    rw [hL.w] at this; rw [hM.w]; exact this
  -- the regions of the state behind
  have hrg : ∀ q b o, Rg Γ3 q b o → (C q = none ∧ Rg Γ1 q b o ∧ ∀ j, J j ≠ some q) ∨ ∃ j, C q = some j ∧ Rg Γ' j b o := fun q b o h => by
    cases hq : C q with
    | none =>
      rcases hM.kept q hq with ⟨h1, _⟩ | ⟨h1, h2, h3⟩
      · unfold Rg at h; rw [h1] at h; exact h.elim
      · exact .inl ⟨rfl, by unfold Rg at h ⊢; rwa [h1, h2] at h, h3⟩
    | some j =>
      obtain ⟨h1, h2⟩ := hM.mine q j hq
      exact .inr ⟨j, rfl, by unfold Rg at h ⊢; rwa [h1, h2] at h⟩
  have hkc : ∀ q b o, Rg Γ1 q b o → (∀ j, J j ≠ some q) → ∀ j, ¬ Rg Γc j b o := fun q b o h h3 j hj => by
    obtain ⟨p, hp, h4⟩ := hL.rg hj
    exact hI.apart q p b o (fun e => h3 j (e ▸ hp)) h h4
  have hmix : ∀ q j b o, Rg Γ1 q b o → (∀ j, J j ≠ some q) → ¬ Rg Γ' j b o := fun q j b o h h3 h4 => by
    rcases hE.newR j b o h4 with ⟨k, hk⟩ | hk
    · exact hkc q b o h h3 k hk
    · have := hI.blk h; rw [hL.w] at hk; omega
  refine ⟨⟨fun q => ?_, fun q r b o hqr h1 h2 => ?_, fun b o hs => ?_⟩,
    ⟨hst, by rw [hM.w, hE.os, hL.w], by rw [hM.w, hE.tape, hL.w], by rw [hM.w, hE.output, hL.w], hsz, fun b hb hn => ?_, fun b o hb hn => hcell b o hb (hnoc hn), fun b o hb hn => hfrz b o hb (hnoc hn), fun b o hs => ?_, fun q b o h => ?_, hM.ser, fun q t xs' ht hc => ?_, fun q t e ht hc => ?_⟩⟩
  · cases hq : C q with
    | some j =>
      obtain ⟨h1, h2⟩ := hM.mine q j hq
      unfold EntOk
      rw [h1, h2, hM.S, hM.w]
      exact hI'.ent j
    | none =>
      rcases hM.kept q hq with ⟨h1, _⟩ | ⟨h1, h2, h3⟩
      · unfold EntOk; rw [h1]; simp [EntC]
      · have he := hI.ent q
        unfold EntOk at he ⊢
        rw [h1, h2]
        have hck : ∀ o, Rg Γ1 q (Γ1.φ q).blk o → Γ3.w.cell? ⟨(Γ1.φ q).blk, o, none⟩ = Γ1.w.cell? ⟨(Γ1.φ q).blk, o, none⟩ ∧ Γ3.w.frozen? ⟨(Γ1.φ q).blk, o, none⟩ = Γ1.w.frozen? ⟨(Γ1.φ q).blk, o, none⟩ := fun o ho =>
          ⟨hcell _ _ (hI.blk ho) (hkc q _ _ ho h3), hfrz _ _ (hI.blk ho) (hkc q _ _ ho h3)⟩
        unfold Rg at hck
        unfold EntC at he ⊢
        split at he
        · trivial
        · rename_i xs hx
          rw [hx] at hck
          refine ⟨by have := he.1; omega, fun o => by rw [(hck o rfl).2]; exact he.2.1 o, fun i x hi => ?_, fun i hi => ?_⟩
          · obtain ⟨v, g1, g2, g3⟩ := he.2.2.1 i x hi
            exact ⟨v, by rw [(hck _ rfl).1]; exact g1, g2, V0.mono hst _ _ g3⟩
          · obtain ⟨v, g1⟩ := he.2.2.2 i hi
            exact ⟨v, by rw [(hck _ rfl).1]; exact g1⟩
        · exact VC.mono hst _ _ _ he
        · rename_i e hx
          rw [hx] at hck
          intro i hi
          obtain ⟨⟨v, g1⟩, g2⟩ := he i hi
          have := hck ((Γ1.φ q).base + i) ⟨rfl, by omega, by omega⟩
          exact ⟨⟨v, by rw [this.1]; exact g1⟩, by rw [this.2]; exact g2⟩
  · rcases hrg q b o h1 with ⟨_, g1, g2⟩ | ⟨j, g1, g2⟩
    · rcases hrg r b o h2 with ⟨_, k1, k2⟩ | ⟨k, k1, k2⟩
      · exact hI.apart q r b o hqr g1 k1
      · exact hmix q k b o g1 g2 k2
    · rcases hrg r b o h2 with ⟨_, k1, k2⟩ | ⟨k, k1, k2⟩
      · exact hmix r j b o k1 k2 g2
      · exact hI'.apart j k b o (fun e => hqr (hM.inj q r j g1 (e ▸ k1))) g2 k2
  · rw [hM.S] at hs
    obtain ⟨h1, h2⟩ := hI'.stay b o hs
    refine ⟨by rw [hM.w]; exact h1, fun q hq => ?_⟩
    rcases hrg q b o hq with ⟨_, g1, g2⟩ | ⟨j, g1, g2⟩
    · rcases hE.newS b o hs with k | ⟨j, k⟩ | k
      · rw [hL.S] at k; exact (hI.stay b o k).2 q g1
      · exact hkc q b o g1 g2 j k
      · have := hI.blk g1; rw [hL.w] at k; omega
    · exact h2 j g2
  · have := hE.block b (by rw [hL.w]; exact hb) (fun j o hj => by obtain ⟨p, _, hp⟩ := hL.rg hj; exact hn p o hp)
    rw [hL.w] at this; rw [hM.w]; exact this
  · rw [hM.S] at hs
    rcases hE.newS b o hs with k | ⟨j, k⟩ | k
    · rw [hL.S] at k; exact .inl k
    · obtain ⟨p, _, hp⟩ := hL.rg k; exact .inr (.inl ⟨p, hp⟩)
    · rw [hL.w] at k; exact .inr (.inr k)
  · rcases hrg q b o h with ⟨_, g1, _⟩ | ⟨j, _, g2⟩
    · exact .inl ⟨q, g1⟩
    · rcases hE.newR j b o g2 with ⟨k, hk⟩ | hk
      · obtain ⟨p, _, hp⟩ := hL.rg hk; exact .inl ⟨p, hp⟩
      · rw [hL.w] at hk; exact .inr hk
  · cases hq : C q with
    | none =>
      rcases hM.kept q hq with ⟨h1, _⟩ | ⟨h1, h2, _⟩
      · rcases cellsAt_cases hc with g | g <;> rw [g] at h1 <;> cases h1
      · refine ⟨⟨xs', ?_, rfl⟩, h2⟩
        unfold cellsAt at hc ⊢; rwa [h1] at hc
    | some j =>
      rcases hM.old q j hq with h1 | ⟨h1, h2, ys, h3⟩
      · have : (Γ3.s q).t = t := by rcases cellsAt_cases hc with g | g <;> rw [g]
        omega
      · obtain ⟨g1, g2⟩ := hM.mine q j hq
        obtain ⟨k1, k2⟩ := hL.here j q h1
        have hc3 : (Γ3.s q).c = .buf ys := by rw [g1, h3]
        have hcq : Γ3.s q = ⟨t, .buf xs'⟩ := by
          rcases cellsAt_cases hc with g | g
          · exact g
          · rw [g] at hc3; cases hc3
        have hxy : xs' = ys := by rw [hcq] at hc3; cases hc3; rfl
        subst hxy
        obtain ⟨⟨zs, hz, hzl⟩, hphi⟩ := hE.bf j 0 xs' (Nat.zero_le _) (by simp [cellsAt, h3])
        refine ⟨⟨zs, ?_, hzl⟩, by rw [g2, hphi, k2]⟩
        have hbuf : (Γ1.s q).c = .buf zs ∨ (Γ1.s q).c = .frz zs := by
          rcases cellsAt_cases hz with g | g
          · left; rw [← k1, g]
          · right; rw [← k1, g]
        have ht1 : (Γ1.s q).t = t := by rw [← h2, hcq]
        unfold cellsAt
        rcases hbuf with hb | hb
        · rw [show Γ1.s q = ⟨t, .buf zs⟩ by rw [← ht1, ← hb]]; simp
        · rw [show Γ1.s q = ⟨t, .frz zs⟩ by rw [← ht1, ← hb]]; simp
  · cases hq : C q with
    | none =>
      rcases hM.kept q hq with ⟨h1, _⟩ | ⟨h1, h2, _⟩
      · rw [hc] at h1; cases h1
      · exact ⟨by rw [← h1]; exact hc, h2⟩
    | some j =>
      rcases hM.old q j hq with h1 | ⟨h1, h2, ys, h3⟩
      · rw [hc] at h1; dsimp only at h1; omega
      · obtain ⟨g1, g2⟩ := hM.mine q j hq
        rw [hc, h3] at g1; cases g1
end Go.Ab
