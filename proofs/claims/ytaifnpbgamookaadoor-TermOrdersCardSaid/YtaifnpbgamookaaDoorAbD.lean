/- A call of a function of which it is known what it answers. No conditions. -/
import Derived.Test.YtaifnpbgamookaaDoorAbC
namespace Go.Ab

/-- The arguments of a call, in the callee's state. -/
structure ArgOk (Γ : G) (as : List Arg) (vs : List Value) : Prop where
  s : Γ.s = st0 as
  len : as.length = vs.length
  val : ∀ (j : Nat) (v : Value), vs[j]? = some v → V Γ (env0 as j) v
def Arg.mut : Arg → Bool
  | .ptr .. | .own .. => true
  | _ => false
/-- A result, in the callee's state. -/
def ResOk (Γ : G) (np : Nat) (v : Value) : Res → Prop
  | .tree x => V0 Γ.S Γ.w x v
  | .newp xs => ∃ p t, np ≤ p ∧ Γ.s p = ⟨t, .buf xs⟩ ∧ V Γ (.ptr p t 0) v
  | .own xs len e => ∃ p t, np ≤ p ∧ Γ.s p = ⟨t, .buf xs⟩ ∧ V Γ (.own p t 0 len e) v
  | .tok xs len e => ∃ p t, Γ.s p = ⟨t, .tok e⟩ ∧ V Γ (.sl xs len (.tok p t)) v
/-- What a call leaves. -/
structure FinOk (Γ : G) (as : List Arg) (r : Res) (os : List (List AV)) (v : Value) : Prop where
  outs : ∀ (j : Nat) (a : Arg), as[j]? = some a → a.mut = true → ∃ xs, os[j]? = some xs ∧ Γ.s j = ⟨0, .buf xs⟩
  res : ResOk Γ as.length v r

/-- A function's answers are right. -/
def FnOk (P : Program) (call : FuncId → List Arg → Option Out) : Prop :=
  ∀ f as r os, call f as = some (r, os) → (∃ fn c, P.funcs[f]? = some fn ∧ fn.name ≠ "runtime.NumGoroutine" ∧ fn.body = some c) ∧ ∀ (Γ : G) (vs : List Value), Inv Γ → ArgOk Γ as vs →
    Calls P f vs.toArray Γ.w fun e w' => ∃ v Γ', e = .returned v ∧ Γ'.w = w' ∧ Inv Γ' ∧ Ext Γ Γ' ∧ FinOk Γ' as r os v

theorem VA_iff {Γ : G} {xs : List AV} {vs : List Value} : VA Γ xs vs ↔ xs.length = vs.length ∧ ∀ (j : Nat) (x : AV) (v : Value), xs[j]? = some x → vs[j]? = some v → V Γ x v := by
  constructor
  · intro h
    induction h with
    | nil => simp
    | cons h _ ih =>
      refine ⟨by simp [ih.1], fun j x v hx hv => ?_⟩
      cases j with
      | zero => simp at hx hv; subst hx; subst hv; exact h
      | succ j => exact ih.2 j x v (by simpa using hx) (by simpa using hv)
  · intro ⟨hl, h⟩
    induction xs generalizing vs with
    | nil => cases vs with
      | nil => exact .nil
      | cons _ _ => simp at hl
    | cons x xs ih => cases vs with
      | nil => simp at hl
      | cons v vs => exact .cons (h 0 x v rfl rfl) (ih (by simpa using hl) fun j x v hx hv => h (j + 1) x v (by simpa using hx) (by simpa using hv))

/-- The same heap, but for what is new. -/
theorem Inv.sameHeap {Γ : G} (hI : Inv Γ) {w2 : World} (hos : w2.os = Γ.w.os) (ht : w2.tape = Γ.w.tape) (ho : w2.output = Γ.w.output) (hs : Γ.w.heap.size ≤ w2.heap.size) (hb : ∀ b, b < Γ.w.heap.size → w2.heap[b]? = Γ.w.heap[b]?) :
    Inv { Γ with w := w2 } ∧ Ext Γ { Γ with w := w2 } := by
  have hst : Stays Γ.S Γ.w Γ.S w2 := fun b o h => ⟨h, cell_of_block (hb b (hI.stay b o h).1) o⟩
  have hlt : ∀ {b o v}, Γ.w.cell? ⟨b, o, none⟩ = some v → b < Γ.w.heap.size := fun h => World.block_lt_of_cell? _ _ h
  refine ⟨⟨fun p => ?_, hI.apart, fun b o h => ⟨Nat.lt_of_lt_of_le (hI.stay b o h).1 hs, (hI.stay b o h).2⟩⟩, hst, hos, ht, ho, hs, fun b h _ => hb b h, fun b o h _ => cell_of_block (hb b h) o, fun b o h _ => frozen_of_block (hb b h) o, fun _ _ h => .inl h, fun p b o h => .inl ⟨p, h⟩,
    fun _ => Nat.le_refl _, fun _ _ xs _ h => ⟨⟨xs, h, rfl⟩, rfl⟩, fun _ _ _ _ h => ⟨h, rfl⟩⟩
  have he := hI.ent p
  unfold EntOk at he ⊢
  dsimp only
  unfold EntC at he ⊢
  split at he
  · trivial
  · have h1 := he.1
    refine ⟨Nat.lt_of_lt_of_le h1 hs, fun o => by rw [frozen_of_block (hb _ h1)]; exact he.2.1 o, fun i x hx => ?_, fun i hi => ?_⟩
    · obtain ⟨v, g1, g2, g3⟩ := he.2.2.1 i x hx
      exact ⟨v, by rw [cell_of_block (hb _ h1)]; exact g1, g2, V0.mono hst _ _ g3⟩
    · obtain ⟨v, g1⟩ := he.2.2.2 i hi
      exact ⟨v, by rw [cell_of_block (hb _ h1)]; exact g1⟩
  · exact VC.mono hst _ _ _ he
  · intro i hi
    obtain ⟨⟨v, g1⟩, g2⟩ := he i hi
    exact ⟨⟨v, by rw [cell_of_block (hb _ (hlt g1))]; exact g1⟩, by rw [frozen_of_block (hb _ (hlt g1))]; exact g2⟩

/-- Blocks that are lent are frozen. -/
theorem Inv.freezeL {Γ : G} (hI : Inv Γ) : ∀ (ps : List Nat), ∃ Γ1, Quiet Γ (ps.foldl frzAt Γ.s) Γ1 ∧ Γ1.φ = Γ.φ ∧
    (∀ q, q ∉ ps → Γ1.s q = Γ.s q) ∧ ∀ q ∈ ps, ∀ t xs, cellsAt Γ.s q t = some xs → Γ1.s q = ⟨t, .frz xs⟩ := by
  intro ps
  induction ps generalizing Γ with
  | nil => exact ⟨Γ, ⟨rfl, rfl, hI, .refl _⟩, rfl, fun _ _ => rfl, by simp⟩
  | cons p ps ih =>
    have step : ∃ Γ0, Quiet Γ (frzAt Γ.s p) Γ0 ∧ Γ0.φ = Γ.φ ∧ (∀ q, q ≠ p → Γ0.s q = Γ.s q) ∧ ∀ t xs, cellsAt Γ.s p t = some xs → Γ0.s p = ⟨t, .frz xs⟩ := by
      unfold frzAt
      split
      · rename_i t xs hp
        obtain ⟨g1, g2⟩ := hI.freeze hp
        refine ⟨{ Γ with s := upd Γ.s p ⟨t, .frz xs⟩, S := fun b o => Γ.S b o ∨ (b = (Γ.φ p).blk ∧ (Γ.φ p).base ≤ o ∧ o < (Γ.φ p).base + xs.length) }, ⟨rfl, rfl, g1, g2⟩, rfl, fun q hq => upd_ne _ _ hq, fun t' xs' h => ?_⟩
        rcases cellsAt_cases h with h' | h' <;> rw [hp] at h' <;> cases h'
        simp
      · rename_i hn
        refine ⟨Γ, ⟨rfl, rfl, hI, .refl _⟩, rfl, fun _ _ => rfl, fun t xs h => ?_⟩
        rcases cellsAt_cases h with h' | h'
        · exact absurd h' (hn t xs)
        · exact h'
    obtain ⟨Γ0, ⟨w0, s0, I0, E0⟩, f0, k0, z0⟩ := step
    obtain ⟨Γ1, ⟨w1, s1, I1, E1⟩, f1, k1, z1⟩ := ih I0
    refine ⟨Γ1, ⟨w1.trans w0, by rw [s1, s0]; rfl, I1, E0.trans E1⟩, f1.trans f0, fun q hq => ?_, fun q hq t xs h => ?_⟩
    · rw [k1 q (fun h => hq (List.mem_cons_of_mem _ h)), k0 q (fun h => hq (h ▸ List.mem_cons_self ..))]
    · by_cases hqp : q = p
      · subst hqp
        have hz := z0 t xs h
        by_cases hq' : q ∈ ps
        · exact z1 q hq' t xs (by simp [cellsAt, hz])
        · rw [k1 q hq', hz]
      · have hq' : q ∈ ps := by
          rcases List.mem_cons.1 hq with h | h
          · exact absurd h hqp
          · exact h
        refine z1 q hq' t xs ?_
        unfold cellsAt at h ⊢
        rwa [k0 q hqp]

/-! ### Lists of arguments -/
section
variable {cfg : Cfg} {f : FuncId}
theorem argsA_iff (s : St) : ∀ (vs : List AV) (k : Nat) (as : List Arg), argsA cfg f s k vs = some as → as.length = vs.length ∧ ∀ (j : Nat) (v : AV), vs[j]? = some v → ∃ a, as[j]? = some a ∧ argA cfg f s (k + j) v = some a
  | [], k, as, h => by simp [argsA] at h; subst h; simp
  | v :: vs, k, as, h => by
    simp only [argsA, Option.bind_eq_some_iff, Option.map_eq_some_iff] at h
    obtain ⟨a, ha, r, hr, rfl⟩ := h
    obtain ⟨h1, h2⟩ := argsA_iff s vs (k + 1) r hr
    refine ⟨by simp [h1], fun j u hu => ?_⟩
    cases j with
    | zero => simp at hu; subst hu; exact ⟨a, rfl, ha⟩
    | succ j =>
      obtain ⟨b, hb, hb'⟩ := h2 j u (by simpa using hu)
      exact ⟨b, by simpa using hb, by rwa [show k + (j + 1) = k + 1 + j by omega]⟩

def JJ (vs : List AV) (as : List Arg) (j : Nat) : Option Nat :=
  match vs[j]?, as[j]? with
  | some v, some a => givesOf v a
  | _, _ => none
theorem JJ_some {vs : List AV} {as : List Arg} {j p : Nat} (h : JJ vs as j = some p) : ∃ v a, vs[j]? = some v ∧ as[j]? = some a ∧ givesOf v a = some p := by
  unfold JJ at h
  split at h
  · exact ⟨_, _, by assumption, by assumption, h⟩
  · cases h
theorem JJ_mem : ∀ {vs : List AV} {as : List Arg} {j p : Nat}, JJ vs as j = some p → p ∈ givesL vs as
  | [], _, j, p, h => by simp [JJ] at h
  | v :: vs, [], j, p, h => by
    unfold JJ at h; simp at h
  | v :: vs, a :: as, j, p, h => by
    simp only [givesL]
    cases j with
    | zero =>
      have h' : givesOf v a = some p := by simpa [JJ] using h
      rw [h']; exact List.mem_cons_self ..
    | succ j =>
      have := JJ_mem (vs := vs) (as := as) (j := j) (p := p) (by simpa [JJ] using h)
      split
      · exact List.mem_cons_of_mem _ this
      · exact this
theorem JJ_inj : ∀ {vs : List AV} {as : List Arg}, (givesL vs as).Nodup → ∀ {j k p : Nat}, JJ vs as j = some p → JJ vs as k = some p → j = k
  | [], _, _, j, k, p, h, _ => by simp [JJ] at h
  | v :: vs, [], _, j, k, p, h, _ => by unfold JJ at h; simp at h
  | v :: vs, a :: as, hn, j, k, p, h, h' => by
    simp only [givesL] at hn
    have tl : (givesL vs as).Nodup := by
      split at hn
      · exact (List.nodup_cons.1 hn).2
      · exact hn
    cases j with
    | zero =>
      cases k with
      | zero => rfl
      | succ k =>
        have h1 : givesOf v a = some p := by simpa [JJ] using h
        have h2 := JJ_mem (vs := vs) (as := as) (j := k) (p := p) (by simpa [JJ] using h')
        rw [h1] at hn
        exact absurd h2 (List.nodup_cons.1 hn).1
    | succ j =>
      cases k with
      | zero =>
        have h1 : givesOf v a = some p := by simpa [JJ] using h'
        have h2 := JJ_mem (vs := vs) (as := as) (j := j) (p := p) (by simpa [JJ] using h)
        rw [h1] at hn
        exact absurd h2 (List.nodup_cons.1 hn).1
      | succ k =>
        have := JJ_inj tl (j := j) (k := k) (p := p) (by simpa [JJ] using h) (by simpa [JJ] using h')
        omega
theorem lends_mem : ∀ {vs : List AV} {as : List Arg} {j : Nat} {v : AV} {a : Arg} {p : Nat}, vs[j]? = some v → as[j]? = some a → lendsOf v a = some p → p ∈ lendsL vs as
  | [], _, j, v, a, p, h, _, _ => by simp at h
  | _ :: _, [], j, v, a, p, _, h, _ => by simp at h
  | v0 :: vs, a0 :: as, j, v, a, p, h1, h2, h3 => by
    simp only [lendsL]
    cases j with
    | zero =>
      simp at h1 h2; subst h1; subst h2
      rw [h3]; exact List.mem_cons_self ..
    | succ j =>
      have := lends_mem (vs := vs) (as := as) (j := j) (by simpa using h1) (by simpa using h2) h3
      split
      · exact List.mem_cons_of_mem _ this
      · exact this

theorem backA_iff : ∀ (vs : List AV) (as : List Arg) (os : List (List AV)) (s s2 : St), (givesL vs as).Nodup → backA s vs as os = some s2 →
    (∀ p, p ∉ givesL vs as → s2 p = s p) ∧ (∀ p, (s2 p).t = (s p).t) ∧ ∀ (j p : Nat) (a : Arg), JJ vs as j = some p → as[j]? = some a →
      (a.mut = false → (s2 p).c = .dead) ∧ (a.mut = true → ∃ o, os[j]? = some o ∧ (s2 p).c = .buf o)
  | [], [], [], s, s2, _, h => by
    simp [backA] at h; subst h
    exact ⟨fun _ _ => rfl, fun _ => rfl, fun j p a h => by simp [JJ] at h⟩
  | [], [], _ :: _, s, s2, _, h => by simp [backA] at h
  | [], _ :: _, _, s, s2, _, h => by simp [backA] at h
  | _ :: _, [], _, s, s2, _, h => by simp [backA] at h
  | _ :: _, _ :: _, [], s, s2, _, h => by simp [backA] at h
  | v :: vs, a :: as, o :: os, s, s2, hn, h => by
    simp only [givesL] at hn ⊢
    simp only [backA] at h
    split at h
    · rename_i hg
      rw [hg] at hn ⊢
      obtain ⟨h1, h2, h3⟩ := backA_iff vs as os s s2 hn h
      refine ⟨h1, h2, fun j p b hj hb => ?_⟩
      cases j with
      | zero => have : givesOf v a = some p := by simpa [JJ] using hj
                rw [hg] at this; cases this
      | succ j => exact h3 j p b (by simpa [JJ] using hj) (by simpa using hb)
    · rename_i p hg
      rw [hg] at hn ⊢
      obtain ⟨hn1, hn2⟩ := List.nodup_cons.1 hn
      have key : ∀ (c : Cell), backA (upd s p ⟨(s p).t, c⟩) vs as os = some s2 → ((a.mut = false → c = .dead) ∧ (a.mut = true → c = .buf o)) →
          (∀ q, q ∉ p :: givesL vs as → s2 q = s q) ∧ (∀ q, (s2 q).t = (s q).t) ∧ ∀ (j q : Nat) (b : Arg), JJ (v :: vs) (a :: as) j = some q → (a :: as)[j]? = some b →
            (b.mut = false → (s2 q).c = .dead) ∧ (b.mut = true → ∃ o', (o :: os)[j]? = some o' ∧ (s2 q).c = .buf o') := by
        intro c hc hm
        obtain ⟨h1, h2, h3⟩ := backA_iff vs as os _ s2 hn2 hc
        refine ⟨fun q hq => ?_, fun q => ?_, fun j q b hj hb => ?_⟩
        · have hq1 : q ≠ p := fun e => hq (e ▸ List.mem_cons_self ..)
          rw [h1 q (fun h => hq (List.mem_cons_of_mem _ h)), upd_ne _ _ hq1]
        · rw [h2 q]
          by_cases hq1 : q = p
          · subst hq1; simp
          · rw [upd_ne _ _ hq1]
        · cases j with
          | zero =>
            have h4 : givesOf v a = some q := by simpa [JJ] using hj
            rw [hg] at h4; cases h4
            simp at hb; subst hb
            have h5 := h1 p hn1
            rw [h5]
            simp only [upd_same]
            exact ⟨hm.1, fun hmt => ⟨o, rfl, hm.2 hmt⟩⟩
          | succ j => exact h3 j q b (by simpa [JJ] using hj) (by simpa using hb)
      split at h
      · exact key .dead h ⟨fun _ => rfl, fun h => by simp [Arg.mut] at h⟩
      · rename_i hnt
        refine key (.buf o) h ⟨fun hm => ?_, fun _ => rfl⟩
        cases a with
        | tree x => cases v <;> simp [givesOf] at hg
        | ptr _ _ => simp [Arg.mut] at hm
        | own _ _ _ _ => simp [Arg.mut] at hm
        | tok xs len e => exact absurd rfl (hnt xs len e)
end
end Go.Ab
