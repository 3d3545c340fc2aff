/- The room behind a slice is filled in place. No conditions. -/
import Derived.Test.YtaifnpbgamookaaDoorAbH
namespace Go.Ab
section
variable {Γ : G} (hI : Inv Γ)
include hI

theorem Inv.grow {p d t' e blk lim lo sp k : Nat} {c' : Cell} {w' : World}
    (hreg : ∀ o, lim ≤ o → o < lim + sp → Rg Γ p blk o) (hcells : ∀ i, i < sp → (∃ v, Γ.w.cell? ⟨blk, lim + i, none⟩ = some v) ∧ Γ.w.frozen? ⟨blk, lim + i, none⟩ = false)
    (hk : k ≤ sp) (hw : Wr Γ.w w' blk lim k) (ys : List AV) (hys : ys.length = k)
    (hv : ∀ (i : Nat) (x : AV), ys[i]? = some x → ∃ v, w'.cell? ⟨blk, lim + i, none⟩ = some v ∧ v.oneCell' = true ∧ V0 Γ.S Γ.w x v)
    (hc : (c' = .dead ∧ lo = lim) ∨ ∃ xs, (Γ.s p).c = .buf xs ∧ c' = .frz xs ∧ blk = (Γ.φ p).blk ∧ lim = (Γ.φ p).base + xs.length ∧ lo = (Γ.φ p).base)
    (ht : (Γ.s d).t < t') :
    let Γ' : G := { φ := upd Γ.φ d ⟨blk, lim + k, sp - k⟩, s := upd (upd Γ.s p ⟨(Γ.s p).t, c'⟩) d ⟨t', .tok e⟩, S := fun b o => Γ.S b o ∨ (b = blk ∧ lo ≤ o ∧ o < lim + k), w := w' }
    Inv Γ' ∧ Ext Γ Γ' ∧ VC Γ'.S Γ'.w ys blk lim ∧ ∀ xs, (Γ.s p).c = .buf xs → c' = .frz xs → VC Γ'.S Γ'.w xs (Γ.φ p).blk (Γ.φ p).base := by
  intro Γ'
  have hr : ∀ o, lim ≤ o → o < lim + k → Rg Γ p blk o := fun o h1 h2 => hreg o h1 (by omega)
  have hlo : ∀ o, lo ≤ o → o < lim + k → Rg Γ p blk o := fun o h1 h2 => by
    rcases hc with ⟨_, hl⟩ | ⟨xs, hx, _, hb, _, _⟩
    · exact hr o (by omega) h2
    · unfold Rg; rw [hx]; exact hb
  have hst : Stays Γ.S Γ.w Γ'.S Γ'.w := hI.wrStays hw hr (fun _ _ h => .inl h)
  have hd : ∀ b o, Rg Γ' d b o → b = blk ∧ lim + k ≤ o ∧ o < lim + sp := fun b o h => by
    unfold Rg at h; simp [Γ'] at h; exact ⟨h.1, h.2.1, by omega⟩
  have hne : ∀ q, q ≠ d → ∀ b o, Rg Γ' q b o → q ≠ p ∧ Rg Γ q b o := fun q hq b o h => by
    unfold Rg at h
    by_cases hqp : q = p
    · subst hqp
      simp [Γ', upd_ne _ _ hq] at h
      rcases hc with ⟨rfl, _⟩ | ⟨xs, _, rfl, _⟩ <;> exact h.elim
    · refine ⟨hqp, ?_⟩
      unfold Rg
      simpa [Γ', upd_ne _ _ hq, upd_ne _ _ hqp] using h
  have hvc : VC Γ'.S Γ'.w ys blk lim := (VC_iff _ _ _).2 fun i x hx => by
    obtain ⟨v, h1, h2, h3⟩ := hv i x hx
    have hi : i < ys.length := by
      rcases Nat.lt_or_ge i ys.length with h | h
      · exact h
      · rw [List.getElem?_eq_none h] at hx; cases hx
    have hll : lo ≤ lim := by
      rcases hc with ⟨_, hl⟩ | ⟨xs, _, _, _, h5, h6⟩ <;> omega
    exact ⟨.inr ⟨rfl, by omega, by omega⟩, v, h1, h2, V0.mono hst _ _ h3⟩
  have hfr : ∀ xs, (Γ.s p).c = .buf xs → c' = .frz xs → VC Γ'.S Γ'.w xs (Γ.φ p).blk (Γ.φ p).base := fun xs hx hq => by
    rcases hc with ⟨rfl, _⟩ | ⟨xs', hx', rfl, hb, hl, hlo'⟩
    · cases hq
    · cases hq
      have he := hI.ent p
      unfold EntOk at he
      rw [hx] at he
      refine (VC_iff _ _ _).2 fun i x hx' => ?_
      have hi : i < xs.length := by
        rcases Nat.lt_or_ge i xs.length with h | h
        · exact h
        · rw [List.getElem?_eq_none h] at hx'; cases hx'
      obtain ⟨v, h1, h2, h3⟩ := he.2.2.1 i x hx'
      refine ⟨.inr ⟨hb.symm, by omega, by omega⟩, v, ?_, h2, V0.mono hst _ _ h3⟩
      rw [← hb]
      rw [hw.cell _ (.inl (by omega)), hb]; exact h1
  refine ⟨⟨fun q => ?_, fun q r b o hqr h1 h2 => ?_, fun b o h => ?_⟩,
    ⟨hst, hw.os, hw.tape, hw.output, by show _ ≤ w'.heap.size; rw [hw.size]; exact Nat.le_refl _, fun b hb hn => ?_, fun b o hb hn => ?_, fun b o _ _ => hw.frzAny b o, fun b o h => ?_, fun q b o h => ?_, fun q => ?_, fun q u ys' hu h => ?_, fun q u e' hu h => ?_⟩, hvc, hfr⟩
  · unfold EntOk
    by_cases hq : q = d
    · subst hq
      simp only [Γ', upd_same, EntC]
      intro i hi
      obtain ⟨⟨v, h1⟩, h2⟩ := hcells (k + i) (by omega)
      rw [← Nat.add_assoc] at h1 h2
      exact ⟨⟨v, by rw [hw.cell _ (.inr (by omega))]; exact h1⟩, by rw [hw.frz]; exact h2⟩
    · simp only [Γ', upd_ne _ _ hq]
      by_cases hqp : q = p
      · subst hqp
        simp only [upd_same]
        rcases hc with ⟨rfl, _⟩ | ⟨xs, hx, rfl, hb, hl, hlo'⟩
        · simp [EntC]
        · simp only [EntC]
          exact hfr xs hx rfl
      · simp only [upd_ne _ _ hqp]
        exact hI.wrEnt hw hr hqp (fun _ _ h => .inl h)
  · by_cases hq : q = d
    · subst hq
      obtain ⟨rfl, h3, h4⟩ := hd b o h1
      obtain ⟨h5, h6⟩ := hne r (Ne.symm hqr) _ _ h2
      exact hI.apart p r _ o (Ne.symm h5) (hreg o (by omega) h4) h6
    · by_cases hr' : r = d
      · subst hr'
        obtain ⟨rfl, h3, h4⟩ := hd b o h2
        obtain ⟨h5, h6⟩ := hne q hqr _ _ h1
        exact hI.apart p q _ o (Ne.symm h5) (hreg o (by omega) h4) h6
      · exact hI.apart q r b o hqr (hne q hq _ _ h1).2 (hne r hr' _ _ h2).2
  · rcases h with h | ⟨rfl, h1, h2⟩
    · refine ⟨by show b < w'.heap.size; rw [hw.size]; exact (hI.stay b o h).1, fun q hq => ?_⟩
      by_cases hqd : q = d
      · subst hqd
        obtain ⟨rfl, h3, h4⟩ := hd b o hq
        exact (hI.stay _ o h).2 p (hreg o (by omega) h4)
      · exact (hI.stay b o h).2 q (hne q hqd _ _ hq).2
    · have h3 := hlo o h1 h2
      refine ⟨by show b < w'.heap.size; rw [hw.size]; exact hI.blk h3, fun q hq => ?_⟩
      by_cases hqd : q = d
      · subst hqd
        have := (hd b o hq).2.1
        omega
      · obtain ⟨h5, h6⟩ := hne q hqd _ _ hq
        exact hI.apart p q _ o (Ne.symm h5) h3 h6
  · have : k = 0 ∨ b ≠ blk := by
      by_cases hk0 : k = 0
      · exact .inl hk0
      · exact .inr fun e => hn p lim (e ▸ hr lim (Nat.le_refl _) (by omega))
    rcases this with rfl | hb'
    · by_cases hb' : b = blk
      · subst hb'
        show w'.heap[b]? = _; rw [hw.nil rfl]
      · exact hw.other b hb'
    · exact hw.other b hb'
  · exact hw.cellAny (by
      by_cases hb' : b = blk
      · subst hb'
        by_cases h1 : o < lim
        · exact .inr (.inl h1)
        · by_cases h2 : lim + k ≤ o
          · exact .inr (.inr h2)
          · exact absurd (hr o (by omega) (by omega)) (hn p)
      · exact .inl hb')
  · rcases h with h | ⟨rfl, h1, h2⟩
    · exact .inl h
    · exact .inr (.inl ⟨p, hlo o h1 h2⟩)
  · by_cases hqd : q = d
    · subst hqd
      obtain ⟨rfl, h3, h4⟩ := hd b o h
      exact .inl ⟨p, hreg o (by omega) h4⟩
    · exact .inl ⟨q, (hne q hqd _ _ h).2⟩
  · by_cases hqd : q = d
    · subst hqd; simp [Γ']; omega
    · by_cases hqp : q = p
      · subst hqp; simp [Γ', upd_ne _ _ hqd]
      · simp [Γ', upd_ne _ _ hqd, upd_ne _ _ hqp]
  · by_cases hqd : q = d
    · subst hqd; rcases cellsAt_cases h with h' | h' <;> simp [Γ'] at h'
    · by_cases hqp : q = p
      · subst hqp
        refine ⟨?_, by simp [Γ', upd_ne _ _ hqd]⟩
        rcases hc with ⟨rfl, _⟩ | ⟨xs, hx, rfl, _⟩
        · rcases cellsAt_cases h with h' | h' <;> simp [Γ', upd_ne _ _ hqd] at h'
        · rcases cellsAt_cases h with h' | h' <;> simp [Γ', upd_ne _ _ hqd] at h'
          obtain ⟨rfl, rfl⟩ := h'
          refine ⟨xs, ?_, rfl⟩
          unfold cellsAt
          split
          · rename_i e1; rw [e1] at hx; simp at hx; simp [hx, e1]
          · rename_i e1; rw [e1] at hx; simp at hx
          · rename_i e1 e2
            exact absurd (show Γ.s q = ⟨(Γ.s q).t, .buf xs⟩ by rw [← hx]) (e1 _ _)
      · refine ⟨⟨ys', ?_, rfl⟩, by simp [Γ', upd_ne _ _ hqd]⟩
        unfold cellsAt at h ⊢
        simpa [Γ', upd_ne _ _ hqd, upd_ne _ _ hqp] using h
  · by_cases hqd : q = d
    · subst hqd; simp [Γ'] at h; omega
    · by_cases hqp : q = p
      · subst hqp
        simp [Γ', upd_ne _ _ hqd] at h
        rcases hc with ⟨rfl, _⟩ | ⟨xs, hx, rfl, _⟩ <;> simp at h
      · refine ⟨by simpa [Γ', upd_ne _ _ hqd, upd_ne _ _ hqp] using h, by simp [Γ', upd_ne _ _ hqd]⟩
end
end Go.Ab
