/- A call goes on to the store that the abstract one tells. No conditions. -/
import Derived.Test.YtaifnpbgamookaaDoorAbD
namespace Go.Ab
section
variable {P : Program} {cfg : Cfg} {Γ : G}

theorem arg_cases {f : FuncId} {s : St} {j : Nat} {v : AV} {a : Arg} (h : argA cfg f s j v = some a) :
    (∃ p t xs off, v = .ptr p t off ∧ s p = ⟨t, .buf xs⟩ ∧ a = .ptr xs off) ∨
    (∃ p t xs off, v = .ptr p t off ∧ s p = ⟨t, .frz xs⟩ ∧ a = .tree (.rptr (xs.drop off))) ∨
    (∃ p t xs off len e, v = .own p t off len e ∧ s p = ⟨t, .buf xs⟩ ∧ a = .own xs off len e) ∨
    (∃ p t xs off len e, v = .own p t off len e ∧ cellsAt s p t = some xs ∧ off + len * e ≤ xs.length ∧ a = .tree (.sl ((xs.drop off).take (len * e)) len .loose)) ∨
    (∃ xs len p t e, v = .sl xs len (.tok p t) ∧ s p = ⟨t, .tok e⟩ ∧ a = .tok xs len e) ∨
    (∃ xs len p t, v = .sl xs len (.tok p t) ∧ a = .tree (.sl xs len .loose)) ∨
    (isTree v = true ∧ a = .tree v) := by
  unfold argA at h
  split at h
  · rename_i p t off
    split at h
    · rename_i t' xs hp
      split at h
      · rename_i e; subst e; cases h; exact .inl ⟨p, _, xs, off, rfl, hp, rfl⟩
      · cases h
    · rename_i t' xs hp
      split at h
      · rename_i e; subst e; cases h; exact .inr (.inl ⟨p, _, xs, off, rfl, hp, rfl⟩)
      · cases h
    · cases h
  · rename_i p t off len e
    simp only [Option.bind_eq_some_iff] at h
    obtain ⟨xs, hx, h⟩ := h
    split at h
    · rename_i hl
      split at h
      · split at h
        · rename_i ys hb
          cases h
          rcases cellsAt_cases hx with h' | h'
          · exact .inr (.inr (.inl ⟨p, t, xs, off, len, e, rfl, h', rfl⟩))
          · rw [h'] at hb; cases hb
        · cases h
      · cases h
        exact .inr (.inr (.inr (.inl ⟨p, t, xs, off, len, e, rfl, hx, hl, rfl⟩)))
    · cases h
  · rename_i xs len p t
    split at h
    · split at h
      · rename_i t' e hp
        split at h
        · rename_i hc; obtain ⟨rfl, _⟩ := hc; cases h
          exact .inr (.inr (.inr (.inr (.inl ⟨xs, len, p, _, e, rfl, hp, rfl⟩))))
        · cases h
      · cases h
    · cases h
      exact .inr (.inr (.inr (.inr (.inr (.inl ⟨xs, len, p, t, rfl, rfl⟩)))))
  · rename_i h1 h2 h3
    cases h
    refine .inr (.inr (.inr (.inr (.inr (.inr ⟨?_, rfl⟩)))))
    unfold isTree
    split
    · exact absurd rfl (h2 _ _ _ _ _)
    · exact absurd rfl (h1 _ _ _)
    · exact absurd rfl (h3 _ _ _ _)
    · rfl

/-- The callee's state. -/
def calleeG (Γ1 : G) (vs : List AV) (as : List Arg) : G :=
  { φ := fun j => match JJ vs as j with | some p => Γ1.φ p | none => ⟨0, 0, 0⟩, s := st0 as, S := Γ1.S, w := Γ1.w }

theorem callee_ok {f : FuncId} (hI : Inv Γ) {vs : List AV} {as : List Arg} {vvs : List Value} (has : argsA cfg f Γ.s 0 vs = some as) (hv : VA Γ vs vvs) (hnd : (givesL vs as).Nodup) (hdis : ∀ p ∈ lendsL vs as, p ∉ givesL vs as) :
    ∃ Γ1, Quiet Γ ((lendsL vs as).foldl frzAt Γ.s) Γ1 ∧ Lent Γ1 (calleeG Γ1 vs as) (JJ vs as) ∧ ArgOk (calleeG Γ1 vs as) as vvs ∧ (∀ p ∈ givesL vs as, Γ1.s p = Γ.s p) ∧
      (∀ (j : Nat) (a : Arg), as[j]? = some a → a.mut = true → ∃ p xs t, JJ vs as j = some p ∧ Γ.s p = ⟨t, .buf xs⟩) := by
  obtain ⟨hl, ha⟩ := argsA_iff Γ.s vs 0 as has
  obtain ⟨hvl, hvv⟩ := VA_iff.1 hv
  obtain ⟨Γ1, hq, hφ, hk, hz⟩ := hI.freezeL (lendsL vs as)
  have hg : ∀ p ∈ givesL vs as, Γ1.s p = Γ.s p := fun p hp => hk p (fun h => hdis p h hp)
  -- one argument
  have one : ∀ (j : Nat) (v : AV) (vv : Value), vs[j]? = some v → vvs[j]? = some vv → ∃ a, as[j]? = some a ∧
      ((JJ vs as j = none ∧ ∃ x, a = .tree x ∧ V0 Γ1.S Γ1.w x vv) ∨
       ∃ p, JJ vs as j = some p ∧ ((∃ t xs off, a = .ptr xs off ∧ Γ1.s p = ⟨t, .buf xs⟩ ∧ v = .ptr p t off) ∨ (∃ t xs off len e, a = .own xs off len e ∧ Γ1.s p = ⟨t, .buf xs⟩ ∧ v = .own p t off len e) ∨
         ∃ t xs len e, a = .tok xs len e ∧ Γ1.s p = ⟨t, .tok e⟩ ∧ v = .sl xs len (.tok p t))) := by
    intro j v vv hj hjv
    obtain ⟨a, haj, hab⟩ := ha j v hj
    have hV := hvv j v vv hj hjv
    have hV1 := V.ext hq.2.2.2 hV
    have hJ : JJ vs as j = givesOf v a := by simp [JJ, hj, haj]
    refine ⟨a, haj, ?_⟩
    rcases arg_cases hab with ⟨p, t, xs, off, rfl, hp, rfl⟩ | ⟨p, t, xs, off, rfl, hp, rfl⟩ | ⟨p, t, xs, off, len, e, rfl, hp, rfl⟩ | ⟨p, t, xs, off, len, e, rfl, hp, hle, rfl⟩ | ⟨xs, len, p, t, e, rfl, hp, rfl⟩ | ⟨xs, len, p, t, rfl, rfl⟩ | ⟨ht, rfl⟩
    · have hJ' : JJ vs as j = some p := hJ
      exact .inr ⟨p, hJ', .inl ⟨t, xs, off, rfl, by rw [hg p (JJ_mem hJ')]; exact hp, rfl⟩⟩
    · refine .inl ⟨hJ, _, rfl, ?_⟩
      have := hV.2 xs (by simp [cellsAt, hp])
      subst this
      have he := hI.ent p
      unfold EntOk at he
      rw [hp] at he
      exact ⟨_, _, rfl, VC.mono hq.2.2.2.stays _ _ _ (VC.drop (xs := xs) he off)⟩
    · have hJ' : JJ vs as j = some p := hJ
      exact .inr ⟨p, hJ', .inr (.inl ⟨t, xs, off, len, e, rfl, by rw [hg p (JJ_mem hJ')]; exact hp, rfl⟩)⟩
    · refine .inl ⟨by rw [hJ]; rfl, _, rfl, ?_⟩
      have hmem := lends_mem hj haj (p := p) rfl
      have hz1 := hz p hmem t xs hp
      have hc1 : cellsAt Γ1.s p t = some xs := by simp [cellsAt, hz1]
      obtain ⟨cap, rfl, hlc, _⟩ := hV1.2 xs hc1
      have he := hq.2.2.1.ent p
      unfold EntOk at he
      rw [hz1] at he
      exact ⟨_, cap, rfl, hlc, by simp, ⟨rfl, by simp⟩, .inr ⟨_, _, rfl, (VC.drop (xs := xs) he off).take _⟩⟩
    · have hJ' : JJ vs as j = some p := hJ
      exact .inr ⟨p, hJ', .inr (.inr ⟨t, xs, len, e, rfl, by rw [hg p (JJ_mem hJ')]; exact hp, rfl⟩)⟩
    · exact .inl ⟨by rw [hJ]; rfl, _, rfl, hV1.1⟩
    · refine .inl ⟨?_, _, rfl, hV1.to0 ht⟩
      rw [hJ]
      cases v <;> first | rfl | (rename_i g; cases g <;> rfl)
  refine ⟨Γ1, hq, ⟨rfl, rfl, fun j p hj => ?_, fun j hj => ?_, fun j k p h1 h2 => JJ_inj hnd h1 h2⟩, ⟨rfl, by rw [hl, hvl], fun j vv hjv => ?_⟩, hg, fun j a haj hm => ?_⟩
  · obtain ⟨v, a, hv', ha', _⟩ := JJ_some hj
    have hjv : ∃ vv, vvs[j]? = some vv := by
      have : j < vvs.length := by
        rw [← hvl]
        rcases Nat.lt_or_ge j vs.length with h | h
        · exact h
        · rw [List.getElem?_eq_none h] at hv'; cases hv'
      exact ⟨_, List.getElem?_eq_getElem this⟩
    obtain ⟨vv, hjv⟩ := hjv
    obtain ⟨a', ha'', hcase⟩ := one j v vv hv' hjv
    rw [ha'] at ha''; cases ha''
    refine ⟨?_, by simp [calleeG, hj]⟩
    rcases hcase with ⟨h, _⟩ | ⟨q, h, hcase⟩
    · rw [hj] at h; cases h
    · rw [hj] at h; cases h
      show (st0 as j).c = _
      rcases hcase with ⟨t, xs, off, rfl, h1, _⟩ | ⟨t, xs, off, len, e, rfl, h1, _⟩ | ⟨t, xs, len, e, rfl, h1, _⟩ <;> rw [h1] <;> simp [st0, ha']
  · show (st0 as j).c = .dead
    unfold st0
    split
    · rename_i xs off haj
      exfalso
      have hjlt : j < vs.length := by
        rw [← hl]
        rcases Nat.lt_or_ge j as.length with h | h
        · exact h
        · rw [List.getElem?_eq_none h] at haj; cases haj
      obtain ⟨a', ha'', hcase⟩ := one j vs[j] vvs[j] (List.getElem?_eq_getElem hjlt) (List.getElem?_eq_getElem (by omega))
      rw [haj] at ha''; cases ha''
      rcases hcase with ⟨_, x, h, _⟩ | ⟨p, h, _⟩
      · cases h
      · rw [hj] at h; cases h
    · rename_i xs off len e haj
      exfalso
      have hjlt : j < vs.length := by
        rw [← hl]
        rcases Nat.lt_or_ge j as.length with h | h
        · exact h
        · rw [List.getElem?_eq_none h] at haj; cases haj
      obtain ⟨a', ha'', hcase⟩ := one j vs[j] vvs[j] (List.getElem?_eq_getElem hjlt) (List.getElem?_eq_getElem (by omega))
      rw [haj] at ha''; cases ha''
      rcases hcase with ⟨_, x, h, _⟩ | ⟨p, h, _⟩
      · cases h
      · rw [hj] at h; cases h
    · rename_i xs len e haj
      exfalso
      have hjlt : j < vs.length := by
        rw [← hl]
        rcases Nat.lt_or_ge j as.length with h | h
        · exact h
        · rw [List.getElem?_eq_none h] at haj; cases haj
      obtain ⟨a', ha'', hcase⟩ := one j vs[j] vvs[j] (List.getElem?_eq_getElem hjlt) (List.getElem?_eq_getElem (by omega))
      rw [haj] at ha''; cases ha''
      rcases hcase with ⟨_, x, h, _⟩ | ⟨p, h, _⟩
      · cases h
      · rw [hj] at h; cases h
    · rfl
  · have hjlt : j < vs.length := by
      rw [hvl]
      rcases Nat.lt_or_ge j vvs.length with h | h
      · exact h
      · rw [List.getElem?_eq_none h] at hjv; cases hjv
    obtain ⟨a, haj, hcase⟩ := one j vs[j] vv (List.getElem?_eq_getElem hjlt) hjv
    have hV1 := V.ext hq.2.2.2 (hvv j vs[j] vv (List.getElem?_eq_getElem hjlt) hjv)
    rcases hcase with ⟨_, x, rfl, h0⟩ | ⟨p, hJ, hcase⟩
    · have : env0 as j = x := by simp [env0, haj]
      rw [this]
      exact V_cell (Γ := calleeG Γ1 vs as) h0
    · have hφj : (calleeG Γ1 vs as).φ j = Γ1.φ p := by simp [calleeG, hJ]
      rcases hcase with ⟨t, xs, off, rfl, h1, h2⟩ | ⟨t, xs, off, len, e, rfl, h1, h2⟩ | ⟨t, xs, len, e, rfl, h1, h2⟩
      · have : env0 as j = .ptr j 0 off := by simp [env0, haj]
        rw [this]
        rw [h2] at hV1
        refine ⟨Nat.zero_le _, fun ys _ => ?_⟩
        rw [hφj]
        exact hV1.2 xs (by simp [cellsAt, h1])
      · have : env0 as j = .own j 0 off len e := by simp [env0, haj]
        rw [this]
        rw [h2] at hV1
        refine ⟨Nat.zero_le _, fun ys hy => ?_⟩
        have hys : ys = xs := by
          have h3 : cellsAt (st0 as) j 0 = some ys := hy
          simp [cellsAt, st0, haj] at h3
          exact h3.symm
        subst hys
        rw [hφj]
        exact hV1.2 ys (by simp [cellsAt, h1])
      · have : env0 as j = .sl xs len (.tok j 0) := by simp [env0, haj]
        rw [this]
        rw [h2] at hV1
        refine ⟨hV1.1, Nat.zero_le _, fun e' he' => ?_⟩
        have hee : e' = e := by
          have h3 : st0 as j = ⟨0, .tok e'⟩ := he'
          simp [st0, haj] at h3
          exact h3.symm
        subst hee
        rw [hφj]
        exact hV1.2.2 e' h1
  · have hjlt : j < vs.length := by
      rw [← hl]
      rcases Nat.lt_or_ge j as.length with h | h
      · exact h
      · rw [List.getElem?_eq_none h] at haj; cases haj
    obtain ⟨a', ha'', hcase⟩ := one j vs[j] vvs[j] (List.getElem?_eq_getElem hjlt) (List.getElem?_eq_getElem (by omega))
    rw [haj] at ha''; cases ha''
    rcases hcase with ⟨_, x, rfl, _⟩ | ⟨p, hJ, hcase⟩
    · simp [Arg.mut] at hm
    · have hgp := hg p (JJ_mem hJ)
      rcases hcase with ⟨t, xs, off, rfl, h1, _⟩ | ⟨t, xs, off, len, e, rfl, h1, _⟩ | ⟨t, xs, len, e, rfl, h1, _⟩
      · exact ⟨p, xs, t, hJ, by rw [← hgp]; exact h1⟩
      · exact ⟨p, xs, t, hJ, by rw [← hgp]; exact h1⟩
      · simp [Arg.mut] at hm

/-! ### The call -/
theorem flat_V0 {S S' : Nat → Nat → Prop} {w w' : World} {x : AV} {v : Value} (hf : flatR (.tree x) = true) (h : V0 S w x v) : V0 S' w' x v := by
  have key : ∀ {x : AV} {v : Value}, flat x = true → V0 S w x v → V0 S' w' x v := fun {x v} hx h => by
    cases x <;> simp [flat] at hx <;> simpa only [V0] using h
  cases x <;> simp only [flatR] at hf <;> try exact key hf h
  rename_i vs
  simp only [V0] at h ⊢
  obtain ⟨us, rfl, hu⟩ := h
  refine ⟨us, rfl, ?_⟩
  obtain ⟨h1, h2⟩ := (VT_iff _ _).1 hu
  refine (VT_iff _ _).2 ⟨h1, fun i y hy => ?_⟩
  obtain ⟨u, h3, h4⟩ := h2 i y hy
  exact ⟨u, h3, key (List.all_eq_true.1 hf y (List.mem_of_getElem? hy)) h4⟩

theorem givesL_nil : ∀ {vs : List AV} {as : List Arg}, givesL vs as = [] → ∀ j, JJ vs as j = none := fun {vs as} h j => by
  cases hj : JJ vs as j with
  | none => rfl
  | some p => have := JJ_mem hj; rw [h] at this; cases this

/-- What a call ends in. -/
def CallTo (Γ : G) (s' : St) (r : AV) (e : Ending) (w' : World) : Prop := ∃ v Γ', e = .returned v ∧ Γ'.w = w' ∧ Γ'.s = s' ∧ Inv Γ' ∧ Ext Γ Γ' ∧ V Γ' r v

theorem callA_ok {call : FuncId → List Arg → Option Out} (hcall : FnOk P call) (hI : Inv Γ) {d : Nat} {f : FuncId} {vs : List AV} {vvs : List Value} {r : AV} {s' : St} (h : callA cfg call d Γ.s f vs = some (r, s')) (hv : VA Γ vs vvs) :
    (∃ fn c, P.funcs[f]? = some fn ∧ fn.name ≠ "runtime.NumGoroutine" ∧ fn.body = some c) ∧ Calls P f vvs.toArray Γ.w (CallTo Γ s' r) := by
  unfold callA at h
  simp only [Option.bind_eq_some_iff] at h
  obtain ⟨as, has, h⟩ := h
  split at h
  · rename_i hc
    obtain ⟨hnd, hdis⟩ := hc
    simp only [Option.bind_eq_some_iff] at h
    obtain ⟨⟨res, os⟩, hcf, s2, hback, hres⟩ := h
    dsimp only at hback hres
    obtain ⟨Γ1, hq, hL, hA, hg, hmut⟩ := callee_ok hI has hv hnd hdis
    have hIc := hL.inv hq.2.2.1
    have hcalls := (hcall f as res os hcf).2 _ vvs hIc hA
    have hwc : (calleeG Γ1 vs as).w = Γ.w := hq.1
    rw [hwc] at hcalls
    refine ⟨(hcall f as res os hcf).1, hcalls.mono fun e w' ⟨v, Γ', he, hw', hI', hE', hF⟩ => ?_⟩
    obtain ⟨hl, _⟩ := argsA_iff Γ.s vs 0 as has
    by_cases hflat : (flatR res && (givesL vs as).isEmpty) = true
    · -- nothing is turned
      rw [if_pos hflat] at hback
      simp only [Bool.and_eq_true, List.isEmpty_iff] at hflat
      obtain ⟨hfl, hgl⟩ := hflat
      have hs2 : s2 = Γ.s := by
        obtain ⟨h1, _, _⟩ := backA_iff vs as os Γ.s s2 hnd hback
        funext p
        exact h1 p (by rw [hgl]; simp)
      subst hs2
      have hJ := givesL_nil hgl
      have hno : ∀ j b o, ¬ Rg (calleeG Γ1 vs as) j b o := fun j b o hr => by
        obtain ⟨p, hp, _⟩ := hL.rg hr
        rw [hJ j] at hp; cases hp
      obtain ⟨x, rfl⟩ : ∃ x, res = .tree x := by
        cases res <;> simp [flatR] at hfl
        exact ⟨_, rfl⟩
      simp only [resA, Option.some.injEq, Prod.mk.injEq] at hres
      obtain ⟨rfl, rfl⟩ := hres
      obtain ⟨hI2, hE2⟩ := hI.sameHeap (w2 := w') (by rw [← hw', hE'.os, hwc]) (by rw [← hw', hE'.tape, hwc]) (by rw [← hw', hE'.output, hwc]) (by rw [← hw']; have := hE'.size; rwa [hwc] at this) (fun b hb => by
        have := hE'.block b (by rw [hwc]; exact hb) (fun j o => hno j b o)
        rw [hw', hwc] at this; exact this)
      exact ⟨v, { Γ with w := w' }, he, rfl, rfl, hI2, hE2, V_cell (flat_V0 hfl hF.res)⟩
    · -- what was handed over comes back
      rw [if_neg hflat] at hback
      rw [← hq.2.1] at hback
      obtain ⟨hb1, hb2, hb3⟩ := backA_iff vs as os Γ1.s s2 hnd hback
      -- which of the callee's entries an entry is
      have hsel : ∃ C0 : Nat → Option Nat, (∀ q j, C0 q = some j ↔ (JJ vs as j = some q ∧ ∃ a, as[j]? = some a ∧ a.mut = true)) := by
        classical
        refine ⟨fun q => if h : ∃ j, JJ vs as j = some q ∧ ∃ a, as[j]? = some a ∧ a.mut = true then some (Classical.choose h) else none, fun q j => ?_⟩
        constructor
        · intro hq'
          dsimp only at hq'
          split at hq'
          · rename_i hx
            cases hq'
            exact Classical.choose_spec hx
          · cases hq'
        · intro hj
          have hx : ∃ j, JJ vs as j = some q ∧ ∃ a, as[j]? = some a ∧ a.mut = true := ⟨j, hj⟩
          show (if h : ∃ j, JJ vs as j = some q ∧ ∃ a, as[j]? = some a ∧ a.mut = true then some (Classical.choose h) else none) = some j
          rw [dif_pos hx]
          exact congrArg some (JJ_inj hnd (Classical.choose_spec hx).1 hj.1)
      obtain ⟨C0, hC0⟩ := hsel
      have hcmut : ∀ q j, C0 q = some j → ∃ o, os[j]? = some o ∧ (s2 q).c = .buf o ∧ Γ'.s j = ⟨0, .buf o⟩ := fun q j hj => by
        obtain ⟨hJ, a, ha, hm⟩ := (hC0 q j).1 hj
        obtain ⟨o, ho, hso⟩ := (hb3 j q a hJ ha).2 hm
        obtain ⟨xs, hxs, hsx⟩ := hF.outs j a ha hm
        rw [ho] at hxs; cases hxs
        exact ⟨o, ho, hso, hsx⟩
      have hkept : ∀ q, C0 q = none → (s2 q).c = .dead ∨ (s2 q = Γ1.s q ∧ ∀ j, JJ vs as j ≠ some q) := fun q hq0 => by
        by_cases hj : ∃ j, JJ vs as j = some q
        · obtain ⟨j, hj⟩ := hj
          obtain ⟨_, a, _, ha, _⟩ := JJ_some hj
          cases hm : a.mut with
          | false => exact .inl ((hb3 j q a hj ha).1 hm)
          | true =>
            have := (hC0 q j).2 ⟨hj, a, ha, hm⟩
            rw [hq0] at this; cases this
        · by_cases hmem : q ∈ givesL vs as
          · exfalso
            -- a member of the list stands somewhere
            have : ∀ (vs : List AV) (as : List Arg), q ∈ givesL vs as → ∃ j, JJ vs as j = some q := by
              intro vs
              induction vs with
              | nil => intro as h; simp [givesL] at h
              | cons v vs ih =>
                intro as h
                cases as with
                | nil => simp [givesL] at h
                | cons a as =>
                  simp only [givesL] at h
                  split at h
                  · rename_i p hp
                    rcases List.mem_cons.1 h with rfl | h
                    · exact ⟨0, by simp [JJ, hp]⟩
                    · obtain ⟨j, hj⟩ := ih as h
                      exact ⟨j + 1, by simpa [JJ] using hj⟩
                  · obtain ⟨j, hj⟩ := ih as h
                    exact ⟨j + 1, by simpa [JJ] using hj⟩
            exact hj (this vs as hmem)
          · exact .inr ⟨hb1 q hmem, fun j h => hj ⟨j, h⟩⟩
      -- the state, with or without an entry more
      have mk : ∀ (x : Option Nat), (∀ p', x = some p' → (as.length ≤ p' ∨ ∃ e, (Γ'.s p').c = .tok e)) →
          let s3 : St := match x with | none => s2 | some p' => upd s2 d ⟨(s2 d).t + 1, (Γ'.s p').c⟩
          ∃ Γ3 : G, Γ3.w = Γ'.w ∧ Γ3.s = s3 ∧ Γ3.S = Γ'.S ∧ (∀ p', x = some p' → Γ3.φ d = Γ'.φ p') ∧ Inv Γ3 ∧ Ext Γ1 Γ3 := by
        intro x hx s3
        let Γ3 : G := { φ := fun q => match (if q = d then x else none) with | some p' => Γ'.φ p' | none => (match C0 q with | some j => Γ'.φ j | none => Γ1.φ q), s := s3, S := Γ'.S, w := Γ'.w }
        have hmix : Mix Γ1 Γ' Γ3 (JJ vs as) (fun q => match (if q = d then x else none) with | some p' => some p' | none => C0 q) := by
          have hs3 : ∀ q, ¬ (q = d ∧ x.isSome = true) → s3 q = s2 q := fun q hq' => by
            cases x with
            | none => rfl
            | some p' => exact upd_ne _ _ (fun h => hq' ⟨h, rfl⟩)
          have hnx : ∀ q, (if q = d then x else none) = none → ¬ (q = d ∧ x.isSome = true) := fun q h1 h2 => by
            rw [if_pos h2.1] at h1; rw [h1] at h2; cases h2.2
          refine ⟨rfl, rfl, fun q => ?_, fun q hq0 => ?_, fun q j hj => ?_, fun q r j hj hr => ?_, fun q j hj => ?_⟩
          · by_cases hqd : q = d ∧ x.isSome = true
            · obtain ⟨rfl, hxs⟩ := hqd
              cases x with
              | none => cases hxs
              | some p' => show _ ≤ (upd s2 q _ q).t; rw [upd_same]; dsimp only; have := hb2 q; omega
            · show _ ≤ (s3 q).t
              rw [hs3 q hqd, hb2 q]; exact Nat.le_refl _
          · try dsimp only at hq0
            split at hq0
            · cases hq0
            · rename_i hxn
              have h3 := hs3 q (hnx q hxn)
              rcases hkept q hq0 with h | ⟨h, h'⟩
              · exact .inl ⟨by show (s3 q).c = _; rw [h3]; exact h, trivial⟩
              · refine .inr ⟨by show s3 q = _; rw [h3]; exact h, ?_, h'⟩
                show (match (if q = d then x else none) with | some p' => Γ'.φ p' | none => (match C0 q with | some j => Γ'.φ j | none => Γ1.φ q)) = _
                rw [hxn, hq0]
          · try dsimp only at hj
            split at hj
            · rename_i p' hxp
              cases hj
              have hqd : q = d := by
                by_cases h : q = d
                · exact h
                · rw [if_neg h] at hxp; cases hxp
              subst hqd
              rw [if_pos rfl] at hxp
              subst hxp
              refine ⟨?_, ?_⟩
              · show (upd s2 q _ q).c = _; rw [upd_same]
              · show (match (if q = q then some j else none) with | some p' => Γ'.φ p' | none => _) = _
                rw [if_pos rfl]
            · rename_i hxn
              have h3 := hs3 q (hnx q hxn)
              obtain ⟨o, _, h5, h6⟩ := hcmut q j hj
              refine ⟨by show (s3 q).c = _; rw [h3, h5, h6], ?_⟩
              show (match (if q = d then x else none) with | some p' => Γ'.φ p' | none => (match C0 q with | some j => Γ'.φ j | none => Γ1.φ q)) = _
              rw [hxn, hj]
          · have hcl : ∀ q j, C0 q = some j → j < as.length ∧ ∃ o, Γ'.s j = ⟨0, .buf o⟩ := fun q j hj => by
              obtain ⟨hJ, a, ha, _⟩ := (hC0 q j).1 hj
              obtain ⟨o, _, _, h6⟩ := hcmut q j hj
              refine ⟨?_, o, h6⟩
              rcases Nat.lt_or_ge j as.length with h | h
              · exact h
              · rw [List.getElem?_eq_none h] at ha; cases ha
            have hclash : ∀ p' q, x = some p' → C0 q = some p' → False := fun p' q hxp hq' => by
              obtain ⟨h1, o, h2⟩ := hcl q p' hq'
              rcases hx p' hxp with h | ⟨e, h⟩
              · omega
              · rw [h2] at h; cases h
            try dsimp only at hj hr
            by_cases hqd : q = d
            · by_cases hrd : r = d
              · rw [hqd, hrd]
              · rw [if_neg hrd] at hr
                rw [if_pos hqd] at hj
                split at hj
                · rename_i p'; cases hj; exact (hclash j r rfl hr).elim
                · obtain ⟨h1, _⟩ := (hC0 q j).1 hj
                  obtain ⟨h2, _⟩ := (hC0 r j).1 hr
                  rw [h1] at h2; cases h2; rfl
            · rw [if_neg hqd] at hj
              by_cases hrd : r = d
              · rw [if_pos hrd] at hr
                split at hr
                · rename_i p'; cases hr; exact (hclash j q rfl hj).elim
                · obtain ⟨h1, _⟩ := (hC0 q j).1 hj
                  obtain ⟨h2, _⟩ := (hC0 r j).1 hr
                  rw [h1] at h2; cases h2; rfl
              · rw [if_neg hrd] at hr
                obtain ⟨h1, _⟩ := (hC0 q j).1 hj
                obtain ⟨h2, _⟩ := (hC0 r j).1 hr
                rw [h1] at h2; cases h2; rfl
          · try dsimp only at hj
            split at hj
            · rename_i p' hxp
              cases hj
              have hqd : q = d := by
                by_cases h : q = d
                · exact h
                · rw [if_neg h] at hxp; cases hxp
              subst hqd
              rw [if_pos rfl] at hxp
              subst hxp
              left
              show _ < (upd s2 q _ q).t
              rw [upd_same]; dsimp only; have := hb2 q; omega
            · rename_i hxn
              have h3 := hs3 q (hnx q hxn)
              obtain ⟨o, _, _, h6⟩ := hcmut q j hj
              exact .inr ⟨((hC0 q j).1 hj).1, by show (s3 q).t = _; rw [h3, hb2 q], o, h6⟩
        obtain ⟨k1, k2⟩ := hmix.ok hq.2.2.1 hL hI' hE'
        exact ⟨Γ3, rfl, rfl, rfl, fun p' hp' => by subst hp'; simp [Γ3], k1, k2⟩
      have hE1 := hq.2.2.2
      cases res with
      | tree x =>
        simp only [resA, Option.some.injEq, Prod.mk.injEq] at hres
        obtain ⟨rfl, rfl⟩ := hres
        obtain ⟨Γ3, g1, g2, g3, _, h1, h2⟩ := mk none (by simp)
        exact ⟨v, Γ3, he, g1.trans hw', g2, h1, hE1.trans h2, V_cell (by rw [g3, g1]; exact hF.res)⟩
      | newp xs =>
        simp only [resA, Option.some.injEq, Prod.mk.injEq] at hres
        obtain ⟨rfl, rfl⟩ := hres
        obtain ⟨p', t, hp1, hp2, hp3⟩ := hF.res
        obtain ⟨Γ3, g1, g2, g3, g4, h1, h2⟩ := mk (some p') (fun q hq' => by cases hq'; exact .inl hp1)
        have hs3 : Γ3.s = upd s2 d ⟨(s2 d).t + 1, .buf xs⟩ := by rw [g2]; dsimp only; rw [hp2]
        refine ⟨v, Γ3, he, g1.trans hw', hs3, h1, hE1.trans h2, ?_, fun ys _ => ?_⟩
        · rw [hs3]; simp
        · have := hp3.2 xs (by simp [cellsAt, hp2])
          rw [g4 p' rfl]; exact this
      | own xs len e' =>
        simp only [resA, Option.some.injEq, Prod.mk.injEq] at hres
        obtain ⟨rfl, rfl⟩ := hres
        obtain ⟨p', t, hp1, hp2, hp3⟩ := hF.res
        obtain ⟨Γ3, g1, g2, g3, g4, h1, h2⟩ := mk (some p') (fun q hq' => by cases hq'; exact .inl hp1)
        have hs3 : Γ3.s = upd s2 d ⟨(s2 d).t + 1, .buf xs⟩ := by rw [g2]; dsimp only; rw [hp2]
        refine ⟨v, Γ3, he, g1.trans hw', hs3, h1, hE1.trans h2, ?_, fun ys hy => ?_⟩
        · rw [hs3]; simp
        · have hys : ys = xs := by
            simp [cellsAt, hs3] at hy; exact hy.symm
          subst hys
          have := hp3.2 ys (by simp [cellsAt, hp2])
          rw [g4 p' rfl]; exact this
      | tok xs len e' =>
        simp only [resA, Option.some.injEq, Prod.mk.injEq] at hres
        obtain ⟨rfl, rfl⟩ := hres
        obtain ⟨p', t, hp2, hp3⟩ := hF.res
        obtain ⟨Γ3, g1, g2, g3, g4, h1, h2⟩ := mk (some p') (fun q hq' => by cases hq'; exact .inr ⟨e', by rw [hp2]⟩)
        have hs3 : Γ3.s = upd s2 d ⟨(s2 d).t + 1, .tok e'⟩ := by rw [g2]; dsimp only; rw [hp2]
        refine ⟨v, Γ3, he, g1.trans hw', hs3, h1, hE1.trans h2, by rw [g3, g1]; exact hp3.1, ?_, fun e2 he2 => ?_⟩
        · rw [hs3]; simp
        · have hee : e2 = e' := by
            simp [hs3] at he2; exact he2.symm
          subst hee
          have := hp3.2.2 e2 hp2
          rw [g4 p' rfl]; exact this
  · cases h

theorem callQ_ok {call : FuncId → List Arg → Option Out} (hcall : FnOk P call) (hI : Inv Γ) {f : FuncId} {vs : List AV} {vvs : List Value} {r : AV} (h : callQ call f vs = some r) (hv : VA Γ vs vvs) :
    (∃ fn c, P.funcs[f]? = some fn ∧ fn.name ≠ "runtime.NumGoroutine" ∧ fn.body = some c) ∧ Calls P f vvs.toArray Γ.w (CallTo Γ Γ.s r) := by
  unfold callQ at h
  split at h
  · rename_i hall
    simp only [Option.bind_eq_some_iff] at h
    obtain ⟨⟨res, os⟩, hcf, h⟩ := h
    obtain ⟨hvl, hvv⟩ := VA_iff.1 hv
    let Γc : G := { φ := Γ.φ, s := st0 (vs.map .tree), S := Γ.S, w := Γ.w }
    have hdead : ∀ j, (Γc.s j).c = .dead := fun j => by
      show (st0 (vs.map .tree) j).c = .dead
      unfold st0
      split <;> first | rfl | (rename_i h'; rw [List.getElem?_map] at h'; cases hq : vs[j]? <;> rw [hq] at h' <;> simp at h')
    have hL : Lent Γ Γc (fun _ => none) := ⟨rfl, rfl, fun _ _ h => by simp at h, fun j _ => hdead j, fun _ _ _ h => by simp at h⟩
    have hA : ArgOk Γc (vs.map .tree) vvs := ⟨rfl, by simp [hvl], fun j v hjv => by
      have hjlt : j < vs.length := by
        rw [hvl]
        rcases Nat.lt_or_ge j vvs.length with h | h
        · exact h
        · rw [List.getElem?_eq_none h] at hjv; cases hjv
      have h1 := hvv j vs[j] v (List.getElem?_eq_getElem hjlt) hjv
      have h2 : env0 (vs.map .tree) j = vs[j] := by simp [env0, hjlt]
      rw [h2]
      exact V_cell (Γ := Γc) (h1.to0 (List.all_eq_true.1 hall _ (List.getElem_mem hjlt)))⟩
    refine ⟨(hcall f _ res os hcf).1, ((hcall f _ res os hcf).2 Γc vvs (hL.inv hI) hA).mono fun e w' ⟨v, Γ', he, hw', hI', hE', hF⟩ => ?_⟩
    dsimp only at h
    split at h
    · cases h
      have hmix : Mix Γ Γ' { φ := Γ.φ, s := Γ.s, S := Γ'.S, w := Γ'.w } (fun _ => none) (fun _ => none) :=
        ⟨rfl, rfl, fun _ => Nat.le_refl _, fun q _ => .inr ⟨rfl, rfl, by simp⟩, fun _ _ h => by simp at h, fun _ _ _ h => by simp at h, fun _ _ h => by simp at h⟩
      obtain ⟨h1, h2⟩ := hmix.ok hI hL hI' hE'
      exact ⟨v, { φ := Γ.φ, s := Γ.s, S := Γ'.S, w := Γ'.w }, he, hw', rfl, h1, h2, V_cell hF.res⟩
    · cases h
  · cases h
end
end Go.Ab
