/- append, whole; literals. No conditions. -/
import Derived.Test.YtaifnpbgamookaaDoorAbX
namespace Go.Ab
section
variable {P : Program} {Γ : G}

/-- How the room behind a slice is taken. -/
structure Took (Γ : G) (s1 : St) (e : Nat) (xs : List AV) (len : Nat) (vx : Value) : Prop where
  ex : ∃ Γ1 a cap, Quiet Γ s1 Γ1 ∧ vx = .slice a len cap ∧ len ≤ cap ∧ xs.length = len * e ∧
    ((xs = [] ∧ len = 0 ∧ cap = 0) ∨ ∃ b o, a = some ⟨b, o, none⟩ ∧ VC Γ1.S Γ1.w xs b o) ∧ (∀ d, (s1 d).t = (Γ.s d).t) ∧
    (len < cap → ∃ p c' lo b o, a = some ⟨b, o, none⟩ ∧ s1 = upd Γ.s p ⟨(Γ.s p).t, c'⟩ ∧
      (∀ q, o + len * e ≤ q → q < o + len * e + (cap - len) * e → Rg Γ p b q) ∧
      (∀ i, i < (cap - len) * e → (∃ v, Γ.w.cell? ⟨b, o + len * e + i, none⟩ = some v) ∧ Γ.w.frozen? ⟨b, o + len * e + i, none⟩ = false) ∧
      ((c' = .dead ∧ lo = o + len * e ∧ VC Γ.S Γ.w xs b o) ∨ ∃ ys off, (Γ.s p).c = .buf ys ∧ c' = .frz ys ∧ b = (Γ.φ p).blk ∧ o + len * e = (Γ.φ p).base + ys.length ∧ lo = (Γ.φ p).base ∧ xs = ys.drop off ∧ o = (Γ.φ p).base + off ∧ off ≤ ys.length))

theorem baseA_ok (hI : Inv Γ) {e : Nat} {x : AV} {xs : List AV} {len : Nat} {s1 : St} (h : baseA e Γ.s x = some (xs, len, s1)) {vx : Value} (hx : V Γ x vx) : Took Γ s1 e xs len vx := by
  unfold baseA at h
  split at h
  · rename_i xs' len'
    split at h
    · rename_i hl
      cases h
      obtain ⟨a, cap, rfl, hlc, hg, hxs⟩ := sl_value hx
      have hcap := hg (.inl rfl)
      exact ⟨Γ, a, cap, ⟨rfl, rfl, hI, .refl _⟩, rfl, hlc, hl, hxs, fun _ => rfl, fun h => by omega⟩
    · cases h
  · rename_i xs' len'
    split at h
    · rename_i hl
      cases h
      obtain ⟨a, cap, rfl, hlc, hg, hxs⟩ := sl_value hx
      have hcap := hg (.inr rfl)
      exact ⟨Γ, a, cap, ⟨rfl, rfl, hI, .refl _⟩, rfl, hlc, hl, hxs, fun _ => rfl, fun h => by omega⟩
    · cases h
  · rename_i xs' len' p t
    split at h
    · rename_i t' e' hp
      split at h
      · rename_i hc
        obtain ⟨rfl, rfl, hl⟩ := hc
        cases h
        obtain ⟨a, cap, hv, hlc, _, hxs⟩ := sl_value hx
        obtain ⟨hI1, hE1⟩ := hI.kill (p := p) (t := t') (by rw [hp]; exact Nat.le_refl _)
        refine ⟨{ Γ with s := upd Γ.s p ⟨t', .dead⟩ }, a, cap, ⟨rfl, rfl, hI1, hE1⟩, hv, hlc, hl, ?_, fun d => ?_, fun hlt => ?_⟩
        · rcases hxs with hxs | ⟨b, o, ha, hc⟩
          · exact .inl hxs
          · exact .inr ⟨b, o, ha, hc⟩
        · by_cases hd : d = p
          · subst hd; simp [hp]
          · simp [upd_ne _ _ hd]
        · obtain ⟨h0, ht, hk⟩ := hx
          obtain ⟨a2, cap2, hv2, hsp, hbl⟩ := hk e' hp
          rw [hv] at hv2
          cases hv2
          obtain ⟨o, rfl, ho⟩ := hbl hlt
          have he := hI.ent p
          unfold EntOk at he
          rw [hp] at he
          simp only [EntC] at he
          refine ⟨p, .dead, _, (Γ.φ p).blk, o, rfl, by rw [hp], fun q h1 h2 => ?_, fun i hi => ?_, .inl ⟨rfl, rfl, ?_⟩⟩
          · unfold Rg
            rw [hp]
            exact ⟨rfl, by omega, by rw [hsp]; omega⟩
          · have := he i (by rw [hsp]; exact hi)
            rwa [← ho, hl] at this
          · rcases hxs with ⟨_, _, h1⟩ | ⟨b, o', ha, hc⟩
            · omega
            · cases ha; exact hc
      · cases h
    · cases h
  · rename_i p t off len' e'
    split at h
    · rename_i t' ys hp
      split at h
      · rename_i hc
        obtain ⟨rfl, rfl, hl⟩ := hc
        cases h
        obtain ⟨cap, rfl, hlc, hcap⟩ := hx.2 ys (by simp [cellsAt, hp])
        obtain ⟨hI1, hE1⟩ := hI.freeze hp
        have he1 := hI1.ent p
        unfold EntOk at he1
        simp only [upd_same, EntC] at he1
        refine ⟨{ Γ with s := upd Γ.s p ⟨t', .frz ys⟩, S := fun b o => Γ.S b o ∨ (b = (Γ.φ p).blk ∧ (Γ.φ p).base ≤ o ∧ o < (Γ.φ p).base + ys.length) }, _, cap, ⟨rfl, rfl, hI1, hE1⟩, rfl, hlc, by simp; omega, .inr ⟨_, _, rfl, he1.drop off⟩, fun d => ?_, fun hlt => ?_⟩
        · by_cases hd : d = p
          · subst hd; simp [hp]
          · simp [upd_ne _ _ hd]
        · have he := hI.ent p
          unfold EntOk at he
          rw [hp] at he
          simp only [EntC] at he
          have hmul : len * e' + (cap - len) * e' = cap * e' := by rw [← Nat.add_mul]; congr 1; omega
          refine ⟨p, .frz ys, (Γ.φ p).base, (Γ.φ p).blk, (Γ.φ p).base + off, rfl, by rw [hp], fun q _ _ => ?_, fun i hi => ?_, .inr ⟨ys, off, by rw [hp], rfl, rfl, by omega, rfl, rfl, rfl, by omega⟩⟩
          · unfold Rg; rw [hp]
          · refine ⟨?_, he.2.1 _⟩
            obtain ⟨v, hv⟩ := he.2.2.2 i (by omega)
            refine ⟨v, ?_⟩
            rw [show (Γ.φ p).base + off + len * e' + i = (Γ.φ p).base + ys.length + i by omega]; exact hv
      · cases h
    · cases h
  · cases h

theorem appendA_ok (hI : Inv Γ) {at_ : Array TypeId} {d : Nat} {x y r : AV} {s' : St} (h : appendA P at_ d Γ.s x y = some (r, s')) {vx vy : Value} (hx : V Γ x vx) (hy : V Γ y vy) (ty : TypeId) :
    SemOk P (Builtin.append_ at_ ty #[vx, vy]) Γ s' r := by
  unfold appendA at h
  split at h
  · rename_i el h0
    simp only [Option.bind_eq_some_iff] at h
    obtain ⟨e, he, ⟨ys, n⟩, hm, ⟨xs, len, s1⟩, hb, h⟩ := h
    dsimp only at h hm hb
    split at h
    · rename_i hc
      obtain ⟨hby, h63, hzo⟩ := hc
      cases h
      obtain ⟨us, hus, hul, hsrc⟩ := moreA_ok hI hm hy
      have hyl : ys.length = n * e := by rw [((VL_iff _ _).1 hus).1, hul]
      obtain ⟨Γ1, a, cap, ⟨hw1, rfl, hI1, hE1⟩, rfl, hlc, hxl, hxs, hser, hin⟩ := (baseA_ok hI hb hx).ex
      obtain ⟨z, hz, hzl⟩ := Option.map_eq_some_iff.1 hzo
      obtain ⟨zv, hzv, rfl, _⟩ := zeroOf_all hz
      have hzs : zv.cells.size = e := by simpa using hzl
      obtain ⟨i, hi, _, hep⟩ := esz_info he
      have h0' : ∃ tt, at_[0]? = some tt ∧ P.underlying tt = some (.slice el) := by
        cases h0q : at_[0]? with
        | none => rw [h0q] at h0; cases h0
        | some tt => rw [h0q] at h0; exact ⟨tt, rfl, tk_sl (by simpa using h0)⟩
      obtain ⟨tt, h0t, hu⟩ := h0'
      have hbi : byOf P el = i.bytes := by simp [byOf, hi]
      rw [hbi] at hby
      by_cases hroom : len + n ≤ cap
      · by_cases hlt : len < cap
        · -- the room is filled
          obtain ⟨p, c', lo, b, o, rfl, hs1, hreg, hcells, hcase⟩ := hin hlt
          have hmul : (cap - len) * e = n * e + (cap - (len + n)) * e := by rw [← Nat.add_mul]; congr 1; omega
          obtain ⟨w', hrun, hwr, hcell⟩ := run_storeCells P b us (o + len * e) 0 Γ.w hus.oneCells (fun j hj => by
            have := hcells j (by omega)
            exact ⟨by rw [Nat.add_zero]; exact this.1, by rw [Nat.add_zero]; exact this.2⟩)
          rw [Nat.add_zero, hul] at hwr
          have hgrow := hI.grow (p := p) (d := d) (t' := (Γ1.s d).t + 1) (e := e) (lo := lo) (sp := (cap - len) * e) (c' := c') hreg hcells (by omega) hwr ys hyl (fun i x hx => by
            obtain ⟨v, g1, g2, g3⟩ := ((VL_iff _ _).1 hus).2 i x hx
            exact ⟨v, by have := hcell i v g1; rwa [Nat.add_zero] at this, g2, g3⟩) (by
            rcases hcase with ⟨g1, g2, _⟩ | ⟨ys', off, g1, g2, g3, g4, g5, _⟩
            · exact .inl ⟨g1, g2⟩
            · exact .inr ⟨ys', g1, g2, g3, g4, g5⟩) (by rw [hser]; omega)
          obtain ⟨hI2, hE2, hvy, hvf⟩ := hgrow
          refine ⟨.slice (some ⟨b, o, none⟩) (len + n) cap, _, run_append_in h0t hu he hi hsrc hroom ty (a := some ⟨b, o, none⟩) (w' := w') (by show (storeCells ((⟨b, o, none⟩ : Addr).add (len * e)) us 0).run P Γ.w = _; rw [add_eq]; exact hrun), by rw [hs1], hI2, hE2, ?_⟩
          refine ⟨⟨_, cap, rfl, hroom, by simp, ⟨rfl, by simp⟩, .inr ⟨b, o, rfl, VC.append ?_ (by rw [hxl]; exact hvy)⟩⟩, by simp, fun e2 he2 => ⟨_, cap, rfl, ?_, fun _ => ⟨o, by simp, ?_⟩⟩⟩
          · rcases hcase with ⟨_, _, g3⟩ | ⟨ys', off, g1, g2, rfl, g4, g5, rfl, rfl, g8⟩
            · exact VC.mono hE2.stays _ _ _ g3
            · exact (hvf ys' g1 g2).drop off
          · have : e2 = e := by simp at he2; exact he2.symm
            subst this
            simp only [upd_same]; omega
          · simp only [upd_same, List.length_append, hxl, hyl]; omega
        · -- nothing is put behind
          have hn0 : n = 0 := by omega
          subst hn0
          have hus0 : us = [] := List.length_eq_zero_iff.1 (by omega)
          have hys0 : ys = [] := List.length_eq_zero_iff.1 (by omega)
          subst hus0; subst hys0
          obtain ⟨hI2, hE2⟩ := hI1.tok0 (d := d) (t := (Γ1.s d).t + 1) (e := e) (by omega)
          refine ⟨.slice a (len + 0) cap, { Γ1 with φ := upd Γ1.φ d ⟨0, 0, 0⟩, s := upd Γ1.s d ⟨(Γ1.s d).t + 1, .tok e⟩ }, run_append_in h0t hu he hi hsrc hroom ty (a := a) (w' := Γ1.w) ?_, rfl, hI2, hE1.trans hE2, ?_⟩
          · cases a with
            | none => exact hw1
            | some ad => show (storeCells _ [] 0).run P Γ.w = _; rw [hw1]; rfl
          · refine ⟨⟨a, cap, rfl, hroom, by simp, ⟨rfl, by simp⟩, ?_⟩, by simp, fun e2 _ => ⟨a, cap, rfl, ?_, fun h => by omega⟩⟩
            · rcases hxs with ⟨g2, g3, g4⟩ | ⟨b, o, ha, hvc⟩
              · exact .inl ⟨by simp [g2], by omega, g4⟩
              · exact .inr ⟨b, o, ha, by rw [List.append_nil]; exact VC.mono hE2.stays _ _ _ hvc⟩
            · simp only [upd_same]
              rw [show cap - (len + 0) = 0 by omega, Nat.zero_mul]
      · -- a new row
        have hcap : cap < len + n := by omega
        obtain ⟨os, hos, hfirst⟩ : ∃ os : List Value, VL Γ1.S Γ1.w xs os ∧ ∀ w2, (∀ b o, w2.cell? ⟨b, o, none⟩ = Γ1.w.cell? ⟨b, o, none⟩) → (Builtin.firstCells e len (.slice a len cap)).run P w2 = .ok os.toArray w2 := by
          rcases hxs with ⟨rfl, rfl, rfl⟩ | ⟨b, o, rfl, hvc⟩
          · exact ⟨[], VL.nil, fun w2 _ => by cases a <;> simp [Builtin.firstCells, loadCells, loadCellsFrom]⟩
          · obtain ⟨os, g1, g2⟩ := Firsts.ofReads (P := P) (n := e) (k := len) (cap := cap) (len := len) (.ofVC hvc) hxl
            refine ⟨os, g1, fun w2 hw2 => ?_⟩
            have := g2 len (Nat.le_refl _) w2 hw2
            rwa [List.take_of_length_le (by rw [← ((VL_iff _ _).1 g1).1, hxl]; exact Nat.le_refl _)] at this
        have hol : os.length = len * e := by rw [← ((VL_iff _ _).1 hos).1, hxl]
        obtain ⟨newCap, rest, hnc, hrun, hrest⟩ := run_append_new (P := P) (Γ := Γ) h0t hu he hi hzv hsrc hol (a := a) (hfirst Γ.w.drew (fun b o => by rw [hw1]; rfl)) hcap hby h63 ty
        obtain ⟨hI2, hE2⟩ := hI1.drew
        have hvl2 : VL Γ1.S Γ1.w.drew (xs ++ ys) (os ++ us) := by
          refine VL.append (VL.mono hE2.stays _ _ hos) (VL.mono ?_ _ _ hus)
          exact (hE1.trans hE2).stays
        obtain ⟨hI3, hE3, hvc3⟩ := hI2.allocTok (d := d) (t := (Γ1.s d).t + 1) (e := e) (by simp) (os ++ us ++ rest).toArray el (xs ++ ys) (os ++ us) hvl2 rest (by simp)
        have hrl : rest.length = (newCap - (len + n)) * e := by
          rw [hrest]; simp [hzs]
        refine ⟨.slice (some ⟨Γ.w.heap.size, 0, none⟩) (len + n) newCap, _, ?_, ?_, hI3, hE1.trans (hE2.trans hE3), ?_⟩
        · rw [hrun, hw1]
        · rfl
        · refine ⟨⟨_, newCap, rfl, hnc, by simp, ⟨rfl, by simp⟩, .inr ⟨_, 0, rfl, ?_⟩⟩, by simp, fun e2 he2 => ⟨_, newCap, rfl, ?_, fun _ => ⟨0, ?_, ?_⟩⟩⟩
          · have := hvc3
            simp only [World.size_drew, hw1] at this
            simpa only [World.size_drew, hw1] using this
          · have : e2 = e := by simp at he2; exact he2.symm
            subst this
            simp only [upd_same]; exact hrl
          · simp [hw1]
          · simp only [upd_same, Nat.zero_add]
    · cases h
  · cases h
end
end Go.Ab
