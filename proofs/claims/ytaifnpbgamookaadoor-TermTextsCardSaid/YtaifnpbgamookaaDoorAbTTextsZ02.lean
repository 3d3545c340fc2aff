/- Several texts put together: AbF, AbAo, AbAp, AbK, AbL, AbM, AbFr. Conditions: as each part says. -/
import Derived.Test.YtaifnpbgamookaaDoorAbTTextsZ01
import Derived.Orders
/- A call goes on to the store that the abstract one tells. No conditions. -/
namespace Go.Ab
section
variable {P : Program} {cfg : Cfg} {Γ : G}

theorem arg_cases {f : FuncId} {s : St} {j : Nat} {v : AV} {a : Arg} (h : argA cfg f s j v = some a) :
    (∃ p t xs off, v = .ptr p t off ∧ s p = ⟨t, .buf xs⟩ ∧ a = .ptr xs off) ∨
    (∃ p t xs off, v = .ptr p t off ∧ s p = ⟨t, .frz xs⟩ ∧ a = .tree (.rptr (xs.drop off))) ∨
    (∃ p t xs off len e, v = .own p t off len e ∧ s p = ⟨t, .buf xs⟩ ∧ a = .own xs off len e) ∨
    (∃ p t xs off len e, v = .own p t off len e ∧ cellsAt s p t = some xs ∧ (∀ ys hs, (s p).c ≠ .mix ys hs) ∧ off + len * e ≤ xs.length ∧ a = .tree (.sl ((xs.drop off).take (len * e)) len .loose)) ∨
    (∃ xs len p t e, v = .sl xs len (.tok p t) ∧ s p = ⟨t, .tok e⟩ ∧ a = .tok xs len e) ∨
    (∃ xs len p t, v = .sl xs len (.tok p t) ∧ a = .tree (.sl xs len .loose)) ∨
    (∃ xs len, v = .slw xs len ∧ a = .tree (.sl (xs.take len) len .loose)) ∨
    (isTree v = true ∧ a = .tree v) := by
  unfold argA at h
  split at h
  · rename_i p t off
    split at h
    · rename_i t' xs hp
      split at h
      · rename_i e; subst e; cases h; exact .inl ⟨p, _, xs, off, rfl, hp, rfl⟩
      · cases h
    · rename_i t' xs hp
      split at h
      · rename_i e; subst e; cases h; exact .inr (.inl ⟨p, _, xs, off, rfl, hp, rfl⟩)
      · cases h
    · cases h
  · rename_i p t off len e
    simp only [Option.bind_eq_some_iff] at h
    obtain ⟨xs, hx, h⟩ := h
    split at h
    · rename_i hl
      split at h
      · split at h
        · rename_i ys hb
          cases h
          rcases cellsAt_cases hx with h' | h' | ⟨_, h'⟩
          · exact .inr (.inr (.inl ⟨p, t, xs, off, len, e, rfl, h', rfl⟩))
          · rw [h'] at hb; cases hb
          · rw [h'] at hb; cases hb
        · cases h
      · split at h
        · cases h
        · rename_i hnm
          cases h
          exact .inr (.inr (.inr (.inl ⟨p, t, xs, off, len, e, rfl, hx, fun ys hs hm => hnm ys hs hm, hl, rfl⟩)))
    · cases h
  · rename_i xs len p t
    split at h
    · split at h
      · rename_i t' e hp
        split at h
        · rename_i hc; obtain ⟨rfl, _⟩ := hc; cases h
          exact .inr (.inr (.inr (.inr (.inl ⟨xs, len, p, _, e, rfl, hp, rfl⟩))))
        · cases h
      · cases h
    · cases h
      exact .inr (.inr (.inr (.inr (.inr (.inl ⟨xs, len, p, t, rfl, rfl⟩)))))
  · cases h
  · cases h
  · cases h
    exact .inr (.inr (.inr (.inr (.inr (.inr (.inl ⟨_, _, rfl, rfl⟩))))))
  · rename_i h1 h2 h3 h4 h5 h6
    cases h
    refine .inr (.inr (.inr (.inr (.inr (.inr (.inr ⟨?_, rfl⟩))))))
    unfold isTree
    split
    · exact absurd rfl (h2 _ _ _ _ _)
    · exact absurd rfl (h1 _ _ _)
    · exact absurd rfl (h4 _ _ _ _ _ _)
    · exact absurd rfl (h5 _ _ _ _ _ _)
    · exact absurd rfl (h6 _ _)
    · exact absurd rfl (h3 _ _ _ _)
    · rfl

def calleeG (Γ1 : G) (vs : List AV) (as1 : List Arg) : G :=
  { φ := fun j => match JJ vs as1 j with | some p => Γ1.φ p | none => ⟨0, 0, 0⟩, s := st0 as1, S := Γ1.S, w := Γ1.w }

theorem callee_ok {f : FuncId} (hI : Inv Γ) {vs : List AV} {as1 : List Arg} {vvs : List Value} (has : argsA cfg f Γ.s 0 vs = some as1) (hv : VA Γ vs vvs) (hnd : (givesL vs as1).Nodup) (hdis : ∀ p ∈ lendsL vs as1, p ∉ givesL vs as1) :
    ∃ Γ1, Quiet Γ ((lendsL vs as1).foldl frzAt Γ.s) Γ1 ∧ Lent Γ1 (calleeG Γ1 vs as1) (JJ vs as1) ∧ ArgOk (calleeG Γ1 vs as1) as1 vvs ∧ (∀ p ∈ givesL vs as1, Γ1.s p = Γ.s p) ∧
      (∀ (j : Nat) (a : Arg), as1[j]? = some a → a.mut = true → ∃ p xs t, JJ vs as1 j = some p ∧ Γ.s p = ⟨t, .buf xs⟩) := by
  obtain ⟨hl, ha⟩ := argsA_iff Γ.s vs 0 as1 has
  obtain ⟨hvl, hvv⟩ := VA_iff.1 hv
  obtain ⟨Γ1, hq, hφ, hk, hz⟩ := hI.freezeL (lendsL vs as1)
  have hg : ∀ p ∈ givesL vs as1, Γ1.s p = Γ.s p := fun p hp => hk p (fun h => hdis p h hp)
  -- one argument
  have one : ∀ (j : Nat) (v : AV) (vv : Value), vs[j]? = some v → vvs[j]? = some vv → ∃ a, as1[j]? = some a ∧
      ((JJ vs as1 j = none ∧ ∃ x, a = .tree x ∧ V0 Γ1.S Γ1.w x vv) ∨
       ∃ p, JJ vs as1 j = some p ∧ ((∃ t xs off, a = .ptr xs off ∧ Γ1.s p = ⟨t, .buf xs⟩ ∧ v = .ptr p t off) ∨ (∃ t xs off len e, a = .own xs off len e ∧ Γ1.s p = ⟨t, .buf xs⟩ ∧ v = .own p t off len e) ∨
         ∃ t xs len e, a = .tok xs len e ∧ Γ1.s p = ⟨t, .tok e⟩ ∧ v = .sl xs len (.tok p t))) := by
    intro j v vv hj hjv
    obtain ⟨a, haj, hab⟩ := ha j v hj
    have hV := hvv j v vv hj hjv
    have hV1 := V.ext hq.2.2.2 hV
    have hJ : JJ vs as1 j = givesOf v a := by simp [JJ, hj, haj]
    refine ⟨a, haj, ?_⟩
    rcases arg_cases hab with ⟨p, t, xs, off, rfl, hp, rfl⟩ | ⟨p, t, xs, off, rfl, hp, rfl⟩ | ⟨p, t, xs, off, len, e, rfl, hp, rfl⟩ | ⟨p, t, xs, off, len, e, rfl, hp, hnm, hle, rfl⟩ | ⟨xs, len, p, t, e, rfl, hp, rfl⟩ | ⟨xs, len, p, t, rfl, rfl⟩ | ⟨xs, len, rfl, rfl⟩ | ⟨ht, rfl⟩
    · have hJ' : JJ vs as1 j = some p := hJ
      exact .inr ⟨p, hJ', .inl ⟨t, xs, off, rfl, by rw [hg p (JJ_mem hJ')]; exact hp, rfl⟩⟩
    · refine .inl ⟨hJ, _, rfl, ?_⟩
      have := hV.2 xs (by simp [cellsAt, hp])
      subst this
      have he := hI.ent p
      unfold EntOk at he
      rw [hp] at he
      exact ⟨_, _, rfl, VC.mono hq.2.2.2.stays _ _ _ (VC.drop (xs := xs) he off)⟩
    · have hJ' : JJ vs as1 j = some p := hJ
      exact .inr ⟨p, hJ', .inr (.inl ⟨t, xs, off, len, e, rfl, by rw [hg p (JJ_mem hJ')]; exact hp, rfl⟩)⟩
    · refine .inl ⟨by rw [hJ]; rfl, _, rfl, ?_⟩
      have hmem := lends_mem hj haj (p := p) rfl
      have hz1 := hz p hmem hnm t xs hp
      have hc1 : cellsAt Γ1.s p t = some xs := by simp [cellsAt, hz1]
      obtain ⟨cap, rfl, hlc, _⟩ := hV1.2 xs hc1
      have he := hq.2.2.1.ent p
      unfold EntOk at he
      rw [hz1] at he
      exact ⟨_, cap, rfl, hlc, by simp, ⟨rfl, by simp⟩, .inr ⟨_, _, rfl, (VC.drop (xs := xs) he off).take _⟩⟩
    · have hJ' : JJ vs as1 j = some p := hJ
      exact .inr ⟨p, hJ', .inr (.inr ⟨t, xs, len, e, rfl, by rw [hg p (JJ_mem hJ')]; exact hp, rfl⟩)⟩
    · exact .inl ⟨by rw [hJ]; rfl, _, rfl, hV1.1⟩
    · obtain ⟨b, o, cap, rfl, h1, h2, hc⟩ := hV1
      exact .inl ⟨by rw [hJ]; rfl, _, rfl, ⟨_, cap, rfl, by omega, by simp, ⟨rfl, by simp⟩, .inr ⟨b, o, rfl, hc.take _⟩⟩⟩
    · refine .inl ⟨?_, _, rfl, hV1.to0 ht⟩
      rw [hJ]
      cases v <;> first | rfl | (rename_i g; cases g <;> rfl)
  refine ⟨Γ1, hq, ⟨rfl, rfl, fun j p hj => ?_, fun j hj => ?_, fun j k p h1 h2 => JJ_inj hnd h1 h2, fun j p hj xs hs hm => ?_⟩, ⟨rfl, by rw [hl, hvl], fun j vv hjv => ?_⟩, hg, fun j a haj hm => ?_⟩
  rotate_left 2
  · obtain ⟨v, a, hv', ha', _⟩ := JJ_some hj
    have hjlt : j < vs.length := by
      rcases Nat.lt_or_ge j vs.length with h | h
      · exact h
      · rw [List.getElem?_eq_none h] at hv'; cases hv'
    obtain ⟨a', ha'', hcase⟩ := one j v vvs[j] hv' (List.getElem?_eq_getElem (by omega))
    rw [ha'] at ha''; cases ha''
    rcases hcase with ⟨h, _⟩ | ⟨q, h, hcase⟩
    · rw [hj] at h; cases h
    · rw [hj] at h; cases h
      rcases hcase with ⟨t, ys, off, _, h1, _⟩ | ⟨t, ys, off, len, e, _, h1, _⟩ | ⟨t, ys, len, e, _, h1, _⟩ <;> rw [h1] at hm <;> cases hm
  rotate_left 2
  · obtain ⟨v, a, hv', ha', _⟩ := JJ_some hj
    have hjv : ∃ vv, vvs[j]? = some vv := by
      have : j < vvs.length := by
        rw [← hvl]
        rcases Nat.lt_or_ge j vs.length with h | h
        · exact h
        · rw [List.getElem?_eq_none h] at hv'; cases hv'
      exact ⟨_, List.getElem?_eq_getElem this⟩
    obtain ⟨vv, hjv⟩ := hjv
    obtain ⟨a', ha'', hcase⟩ := one j v vv hv' hjv
    rw [ha'] at ha''; cases ha''
    refine ⟨?_, by simp [calleeG, hj]⟩
    rcases hcase with ⟨h, _⟩ | ⟨q, h, hcase⟩
    · rw [hj] at h; cases h
    · rw [hj] at h; cases h
      show (st0 as1 j).c = _
      rcases hcase with ⟨t, xs, off, rfl, h1, _⟩ | ⟨t, xs, off, len, e, rfl, h1, _⟩ | ⟨t, xs, len, e, rfl, h1, _⟩ <;> rw [h1] <;> simp [st0, ha']
  · show (st0 as1 j).c = .dead
    unfold st0
    split
    · rename_i xs off haj
      exfalso
      have hjlt : j < vs.length := by
        rw [← hl]
        rcases Nat.lt_or_ge j as1.length with h | h
        · exact h
        · rw [List.getElem?_eq_none h] at haj; cases haj
      obtain ⟨a', ha'', hcase⟩ := one j vs[j] vvs[j] (List.getElem?_eq_getElem hjlt) (List.getElem?_eq_getElem (by omega))
      rw [haj] at ha''; cases ha''
      rcases hcase with ⟨_, x, h, _⟩ | ⟨p, h, _⟩
      · cases h
      · rw [hj] at h; cases h
    · rename_i xs off len e haj
      exfalso
      have hjlt : j < vs.length := by
        rw [← hl]
        rcases Nat.lt_or_ge j as1.length with h | h
        · exact h
        · rw [List.getElem?_eq_none h] at haj; cases haj
      obtain ⟨a', ha'', hcase⟩ := one j vs[j] vvs[j] (List.getElem?_eq_getElem hjlt) (List.getElem?_eq_getElem (by omega))
      rw [haj] at ha''; cases ha''
      rcases hcase with ⟨_, x, h, _⟩ | ⟨p, h, _⟩
      · cases h
      · rw [hj] at h; cases h
    · rename_i xs len e haj
      exfalso
      have hjlt : j < vs.length := by
        rw [← hl]
        rcases Nat.lt_or_ge j as1.length with h | h
        · exact h
        · rw [List.getElem?_eq_none h] at haj; cases haj
      obtain ⟨a', ha'', hcase⟩ := one j vs[j] vvs[j] (List.getElem?_eq_getElem hjlt) (List.getElem?_eq_getElem (by omega))
      rw [haj] at ha''; cases ha''
      rcases hcase with ⟨_, x, h, _⟩ | ⟨p, h, _⟩
      · cases h
      · rw [hj] at h; cases h
    · rfl
  · have hjlt : j < vs.length := by
      rw [hvl]
      rcases Nat.lt_or_ge j vvs.length with h | h
      · exact h
      · rw [List.getElem?_eq_none h] at hjv; cases hjv
    obtain ⟨a, haj, hcase⟩ := one j vs[j] vv (List.getElem?_eq_getElem hjlt) hjv
    have hV1 := V.ext hq.2.2.2 (hvv j vs[j] vv (List.getElem?_eq_getElem hjlt) hjv)
    rcases hcase with ⟨_, x, rfl, h0⟩ | ⟨p, hJ, hcase⟩
    · have : env0 as1 j = x := by simp [env0, haj]
      rw [this]
      exact V_cell (Γ := calleeG Γ1 vs as1) h0
    · have hφj : (calleeG Γ1 vs as1).φ j = Γ1.φ p := by simp [calleeG, hJ]
      rcases hcase with ⟨t, xs, off, rfl, h1, h2⟩ | ⟨t, xs, off, len, e, rfl, h1, h2⟩ | ⟨t, xs, len, e, rfl, h1, h2⟩
      · have : env0 as1 j = .ptr j 0 off := by simp [env0, haj]
        rw [this]
        rw [h2] at hV1
        refine ⟨Nat.zero_le _, fun ys _ => ?_⟩
        rw [hφj]
        exact hV1.2 xs (by simp [cellsAt, h1])
      · have : env0 as1 j = .own j 0 off len e := by simp [env0, haj]
        rw [this]
        rw [h2] at hV1
        refine ⟨⟨Nat.zero_le _, hV1.1.2⟩, fun ys hy => ?_⟩
        have hys : ys = xs := by
          have h3 : cellsAt (st0 as1) j 0 = some ys := hy
          simp [cellsAt, st0, haj] at h3
          exact h3.symm
        subst hys
        rw [hφj]
        exact hV1.2 ys (by simp [cellsAt, h1])
      · have : env0 as1 j = .sl xs len (.tok j 0) := by simp [env0, haj]
        rw [this]
        rw [h2] at hV1
        refine ⟨hV1.1, Nat.zero_le _, fun e' he' => ?_⟩
        have hee : e' = e := by
          have h3 : st0 as1 j = ⟨0, .tok e'⟩ := he'
          simp [st0, haj] at h3
          exact h3.symm
        subst hee
        rw [hφj]
        exact hV1.2.2 e' h1
  · have hjlt : j < vs.length := by
      rw [← hl]
      rcases Nat.lt_or_ge j as1.length with h | h
      · exact h
      · rw [List.getElem?_eq_none h] at haj; cases haj
    obtain ⟨a', ha'', hcase⟩ := one j vs[j] vvs[j] (List.getElem?_eq_getElem hjlt) (List.getElem?_eq_getElem (by omega))
    rw [haj] at ha''; cases ha''
    rcases hcase with ⟨_, x, rfl, _⟩ | ⟨p, hJ, hcase⟩
    · simp [Arg.mut] at hm
    · have hgp := hg p (JJ_mem hJ)
      rcases hcase with ⟨t, xs, off, rfl, h1, _⟩ | ⟨t, xs, off, len, e, rfl, h1, _⟩ | ⟨t, xs, len, e, rfl, h1, _⟩
      · exact ⟨p, xs, t, hJ, by rw [← hgp]; exact h1⟩
      · exact ⟨p, xs, t, hJ, by rw [← hgp]; exact h1⟩
      · simp [Arg.mut] at hm

theorem flat_V0 {S S' : Nat → Nat → Prop} {w w' : World} {x : AV} {v : Value} (hf : flatR (.tree x) = true) (h : V0 S w x v) : V0 S' w' x v := by
  have key : ∀ {x : AV} {v : Value}, flat x = true → V0 S w x v → V0 S' w' x v := fun {x v} hx h => by
    cases x <;> simp [flat] at hx <;> simpa only [V0] using h
  cases x <;> simp only [flatR] at hf <;> try exact key hf h
  rename_i vs
  simp only [V0] at h ⊢
  obtain ⟨us, rfl, hu⟩ := h
  refine ⟨us, rfl, ?_⟩
  obtain ⟨h1, h2⟩ := (VT_iff _ _).1 hu
  refine (VT_iff _ _).2 ⟨h1, fun i y hy => ?_⟩
  obtain ⟨u, h3, h4⟩ := h2 i y hy
  exact ⟨u, h3, key (List.all_eq_true.1 hf y (List.mem_of_getElem? hy)) h4⟩

theorem givesL_nil : ∀ {vs : List AV} {as1 : List Arg}, givesL vs as1 = [] → ∀ j, JJ vs as1 j = none := fun {vs as1} h j => by
  cases hj : JJ vs as1 j with
  | none => rfl
  | some p => have := JJ_mem hj; rw [h] at this; cases this

def CallTo (Γ : G) (s' : St) (r : AV) (e : Ending) (w' : World) : Prop := ∃ v Γ', e = .returned v ∧ Γ'.w = w' ∧ Γ'.s = s' ∧ Inv Γ' ∧ Ext Γ Γ' ∧ V Γ' r v

theorem callA_ok {call : FuncId → List Arg → Option Out} (hcall : FnOk P call) (hI : Inv Γ) {d : Nat} {f : FuncId} {vs : List AV} {vvs : List Value} {r : AV} {s' : St} (h : callA cfg call d Γ.s f vs = some (r, s')) (hv : VA Γ vs vvs) :
    (∃ fn c, P.funcs[f]? = some fn ∧ fn.name ≠ "runtime.NumGoroutine" ∧ fn.body = some c) ∧ Calls P f vvs.toArray Γ.w (CallTo Γ s' r) := by
  unfold callA at h
  simp only [Option.bind_eq_some_iff] at h
  obtain ⟨as1, has, h⟩ := h
  split at h
  · rename_i hc
    obtain ⟨hnd, hdis⟩ := hc
    simp only [Option.bind_eq_some_iff] at h
    obtain ⟨⟨res, os⟩, hcf, s2, hback, hres⟩ := h
    dsimp only at hback hres
    obtain ⟨Γ1, hq, hL, hA, hg, hmut⟩ := callee_ok hI has hv hnd hdis
    have hIc := hL.inv hq.2.2.1
    have hcalls := (hcall f as1 res os hcf).2 _ vvs hIc hA
    have hwc : (calleeG Γ1 vs as1).w = Γ.w := hq.1
    rw [hwc] at hcalls
    refine ⟨(hcall f as1 res os hcf).1, hcalls.mono fun e w' ⟨v, Γ', he, hw', hI', hE', hF⟩ => ?_⟩
    obtain ⟨hl, _⟩ := argsA_iff Γ.s vs 0 as1 has
    by_cases hflat : (flatR res && (givesL vs as1).isEmpty) = true
    · -- nothing is turned
      rw [if_pos hflat] at hback
      simp only [Bool.and_eq_true, List.isEmpty_iff] at hflat
      obtain ⟨hfl, hgl⟩ := hflat
      have hs2 : s2 = Γ.s := by
        obtain ⟨h1, _, _⟩ := backA_iff vs as1 os Γ.s s2 hnd hback
        funext p
        exact h1 p (by rw [hgl]; simp)
      subst hs2
      have hJ := givesL_nil hgl
      have hno : ∀ j b o, ¬ Rg (calleeG Γ1 vs as1) j b o := fun j b o hr => by
        obtain ⟨p, hp, _⟩ := hL.rg hr
        rw [hJ j] at hp; cases hp
      obtain ⟨x, rfl⟩ : ∃ x, res = .tree x := by
        cases res <;> simp [flatR] at hfl
        exact ⟨_, rfl⟩
      simp only [resA, Option.some.injEq, Prod.mk.injEq] at hres
      obtain ⟨rfl, rfl⟩ := hres
      obtain ⟨hI2, hE2⟩ := hI.sameHeap (w2 := w') (by rw [← hw', hE'.os, hwc]) (by rw [← hw', hE'.tape, hwc]) (by rw [← hw', hE'.output, hwc]) (by rw [← hw']; have := hE'.size; rwa [hwc] at this) (fun b hb => by
        have := hE'.block b (by rw [hwc]; exact hb) (fun j o => hno j b o)
        rw [hw', hwc] at this; exact this)
      exact ⟨v, { Γ with w := w' }, he, rfl, rfl, hI2, hE2, V_cell (flat_V0 hfl hF.res)⟩
    · -- what was handed over comes back
      rw [if_neg hflat] at hback
      rw [← hq.2.1] at hback
      obtain ⟨hb1, hb2, hb3⟩ := backA_iff vs as1 os Γ1.s s2 hnd hback
      -- which of the callee's entries an entry is
      have hsel : ∃ C0 : Nat → Option Nat, (∀ q j, C0 q = some j ↔ (JJ vs as1 j = some q ∧ ∃ a, as1[j]? = some a ∧ a.mut = true)) := by
        classical
        refine ⟨fun q => if h : ∃ j, JJ vs as1 j = some q ∧ ∃ a, as1[j]? = some a ∧ a.mut = true then some (Classical.choose h) else none, fun q j => ?_⟩
        constructor
        · intro hq'
          dsimp only at hq'
          split at hq'
          · rename_i hx
            cases hq'
            exact Classical.choose_spec hx
          · cases hq'
        · intro hj
          have hx : ∃ j, JJ vs as1 j = some q ∧ ∃ a, as1[j]? = some a ∧ a.mut = true := ⟨j, hj⟩
          show (if h : ∃ j, JJ vs as1 j = some q ∧ ∃ a, as1[j]? = some a ∧ a.mut = true then some (Classical.choose h) else none) = some j
          rw [dif_pos hx]
          exact congrArg some (JJ_inj hnd (Classical.choose_spec hx).1 hj.1)
      obtain ⟨C0, hC0⟩ := hsel
      have hcmut : ∀ q j, C0 q = some j → ∃ o, os[j]? = some o ∧ (s2 q).c = .buf o ∧ Γ'.s j = ⟨0, .buf o⟩ := fun q j hj => by
        obtain ⟨hJ, a, ha, hm⟩ := (hC0 q j).1 hj
        obtain ⟨o, ho, hso⟩ := (hb3 j q a hJ ha).2 hm
        obtain ⟨xs, hxs, hsx⟩ := hF.outs j a ha hm
        rw [ho] at hxs; cases hxs
        exact ⟨o, ho, hso, hsx⟩
      have hkept : ∀ q, C0 q = none → (s2 q).c = .dead ∨ (s2 q = Γ1.s q ∧ ∀ j, JJ vs as1 j ≠ some q) := fun q hq0 => by
        by_cases hj : ∃ j, JJ vs as1 j = some q
        · obtain ⟨j, hj⟩ := hj
          obtain ⟨_, a, _, ha, _⟩ := JJ_some hj
          cases hm : a.mut with
          | false => exact .inl ((hb3 j q a hj ha).1 hm)
          | true =>
            have := (hC0 q j).2 ⟨hj, a, ha, hm⟩
            rw [hq0] at this; cases this
        · by_cases hmem : q ∈ givesL vs as1
          · exfalso
            -- a member of the list stands somewhere
            have : ∀ (vs : List AV) (as1 : List Arg), q ∈ givesL vs as1 → ∃ j, JJ vs as1 j = some q := by
              intro vs
              induction vs with
              | nil => intro as1 h; simp [givesL] at h
              | cons v vs ih =>
                intro as1 h
                cases as1 with
                | nil => simp [givesL] at h
                | cons a as1 =>
                  simp only [givesL] at h
                  split at h
                  · rename_i p hp
                    rcases List.mem_cons.1 h with rfl | h
                    · exact ⟨0, by simp [JJ, hp]⟩
                    · obtain ⟨j, hj⟩ := ih as1 h
                      exact ⟨j + 1, by simpa [JJ] using hj⟩
                  · obtain ⟨j, hj⟩ := ih as1 h
                    exact ⟨j + 1, by simpa [JJ] using hj⟩
            exact hj (this vs as1 hmem)
          · exact .inr ⟨hb1 q hmem, fun j h => hj ⟨j, h⟩⟩
      -- the state, with or without an entry more
      have mk : ∀ (x : Option Nat), (∀ p', x = some p' → (as1.length ≤ p' ∨ ∃ e, (Γ'.s p').c = .tok e) ∧ ∀ xs hs, (Γ'.s p').c ≠ .mix xs hs) →
          let s3 : St := match x with | none => s2 | some p' => upd s2 d ⟨(s2 d).t + 1, (Γ'.s p').c⟩
          ∃ Γ3 : G, Γ3.w = Γ'.w ∧ Γ3.s = s3 ∧ Γ3.S = Γ'.S ∧ (∀ p', x = some p' → Γ3.φ d = Γ'.φ p') ∧ Inv Γ3 ∧ Ext Γ1 Γ3 := by
        intro x hx s3
        let Γ3 : G := { φ := fun q => match (if q = d then x else none) with | some p' => Γ'.φ p' | none => (match C0 q with | some j => Γ'.φ j | none => Γ1.φ q), s := s3, S := Γ'.S, w := Γ'.w }
        have hmix : Mix Γ1 Γ' Γ3 (JJ vs as1) (fun q => match (if q = d then x else none) with | some p' => some p' | none => C0 q) := by
          have hs3 : ∀ q, ¬ (q = d ∧ x.isSome = true) → s3 q = s2 q := fun q hq' => by
            cases x with
            | none => rfl
            | some p' => exact upd_ne _ _ (fun h => hq' ⟨h, rfl⟩)
          have hnx : ∀ q, (if q = d then x else none) = none → ¬ (q = d ∧ x.isSome = true) := fun q h1 h2 => by
            rw [if_pos h2.1] at h1; rw [h1] at h2; cases h2.2
          refine ⟨rfl, rfl, fun q => ?_, fun q hq0 => ?_, fun q j hj => ?_, fun q r j hj hr => ?_, fun q j hj xs hs hm => ?_, fun q j hj => ?_⟩
          · by_cases hqd : q = d ∧ x.isSome = true
            · obtain ⟨rfl, hxs⟩ := hqd
              cases x with
              | none => cases hxs
              | some p' => show _ ≤ (upd s2 q _ q).t; rw [upd_same]; dsimp only; have := hb2 q; omega
            · show _ ≤ (s3 q).t
              rw [hs3 q hqd, hb2 q]; exact Nat.le_refl _
          · try dsimp only at hq0
            split at hq0
            · cases hq0
            · rename_i hxn
              have h3 := hs3 q (hnx q hxn)
              rcases hkept q hq0 with h | ⟨h, h'⟩
              · exact .inl ⟨by show (s3 q).c = _; rw [h3]; exact h, trivial⟩
              · refine .inr ⟨by show s3 q = _; rw [h3]; exact h, ?_, h'⟩
                show (match (if q = d then x else none) with | some p' => Γ'.φ p' | none => (match C0 q with | some j => Γ'.φ j | none => Γ1.φ q)) = _
                rw [hxn, hq0]
          · try dsimp only at hj
            split at hj
            · rename_i p' hxp
              cases hj
              have hqd : q = d := by
                by_cases h : q = d
                · exact h
                · rw [if_neg h] at hxp; cases hxp
              subst hqd
              rw [if_pos rfl] at hxp
              subst hxp
              refine ⟨?_, ?_⟩
              · show (upd s2 q _ q).c = _; rw [upd_same]
              · show (match (if q = q then some j else none) with | some p' => Γ'.φ p' | none => _) = _
                rw [if_pos rfl]
            · rename_i hxn
              have h3 := hs3 q (hnx q hxn)
              obtain ⟨o, _, h5, h6⟩ := hcmut q j hj
              refine ⟨by show (s3 q).c = _; rw [h3, h5, h6], ?_⟩
              show (match (if q = d then x else none) with | some p' => Γ'.φ p' | none => (match C0 q with | some j => Γ'.φ j | none => Γ1.φ q)) = _
              rw [hxn, hj]
          · have hcl : ∀ q j, C0 q = some j → j < as1.length ∧ ∃ o, Γ'.s j = ⟨0, .buf o⟩ := fun q j hj => by
              obtain ⟨hJ, a, ha, _⟩ := (hC0 q j).1 hj
              obtain ⟨o, _, _, h6⟩ := hcmut q j hj
              refine ⟨?_, o, h6⟩
              rcases Nat.lt_or_ge j as1.length with h | h
              · exact h
              · rw [List.getElem?_eq_none h] at ha; cases ha
            have hclash : ∀ p' q, x = some p' → C0 q = some p' → False := fun p' q hxp hq' => by
              obtain ⟨h1, o, h2⟩ := hcl q p' hq'
              rcases hx p' hxp with h | ⟨e, h⟩
              · omega
              · rw [h2] at h; cases h
            try dsimp only at hj hr
            by_cases hqd : q = d
            · by_cases hrd : r = d
              · rw [hqd, hrd]
              · rw [if_neg hrd] at hr
                rw [if_pos hqd] at hj
                split at hj
                · rename_i p'; cases hj; exact (hclash j r rfl hr).elim
                · obtain ⟨h1, _⟩ := (hC0 q j).1 hj
                  obtain ⟨h2, _⟩ := (hC0 r j).1 hr
                  rw [h1] at h2; cases h2; rfl
            · rw [if_neg hqd] at hj
              by_cases hrd : r = d
              · rw [if_pos hrd] at hr
                split at hr
                · rename_i p'; cases hr; exact (hclash j q rfl hj).elim
                · obtain ⟨h1, _⟩ := (hC0 q j).1 hj
                  obtain ⟨h2, _⟩ := (hC0 r j).1 hr
                  rw [h1] at h2; cases h2; rfl
              · rw [if_neg hrd] at hr
                obtain ⟨h1, _⟩ := (hC0 q j).1 hj
                obtain ⟨h2, _⟩ := (hC0 r j).1 hr
                rw [h1] at h2; cases h2; rfl
          · try dsimp only at hj
            split at hj
            · rename_i p' hxp
              cases hj
              have hqd : q = d := by
                by_cases h : q = d
                · exact h
                · rw [if_neg h] at hxp; cases hxp
              rw [if_pos hqd] at hxp
              exact (hx _ hxp).2 xs hs hm
            · obtain ⟨o, _, _, h6⟩ := hcmut q j hj
              rw [h6] at hm; cases hm
          · try dsimp only at hj
            split at hj
            · rename_i p' hxp
              cases hj
              have hqd : q = d := by
                by_cases h : q = d
                · exact h
                · rw [if_neg h] at hxp; cases hxp
              subst hqd
              rw [if_pos rfl] at hxp
              subst hxp
              left
              show _ < (upd s2 q _ q).t
              rw [upd_same]; dsimp only; have := hb2 q; omega
            · rename_i hxn
              have h3 := hs3 q (hnx q hxn)
              obtain ⟨o, _, _, h6⟩ := hcmut q j hj
              exact .inr ⟨((hC0 q j).1 hj).1, by show (s3 q).t = _; rw [h3, hb2 q], o, h6⟩
        obtain ⟨k1, k2⟩ := hmix.ok hq.2.2.1 hL hI' hE'
        exact ⟨Γ3, rfl, rfl, rfl, fun p' hp' => by subst hp'; simp [Γ3], k1, k2⟩
      have hE1 := hq.2.2.2
      cases res with
      | tree x =>
        simp only [resA, Option.some.injEq, Prod.mk.injEq] at hres
        obtain ⟨rfl, rfl⟩ := hres
        obtain ⟨Γ3, g1, g2, g3, _, h1, h2⟩ := mk none (by simp)
        exact ⟨v, Γ3, he, g1.trans hw', g2, h1, hE1.trans h2, V_cell (by rw [g3, g1]; exact hF.res)⟩
      | newp xs =>
        simp only [resA, Option.some.injEq, Prod.mk.injEq] at hres
        obtain ⟨rfl, rfl⟩ := hres
        obtain ⟨p', t, hp1, hp2, hp3⟩ := hF.res
        obtain ⟨Γ3, g1, g2, g3, g4, h1, h2⟩ := mk (some p') (fun q hq' => by cases hq'; exact ⟨.inl hp1, by rw [hp2]; simp⟩)
        have hs3 : Γ3.s = upd s2 d ⟨(s2 d).t + 1, .buf xs⟩ := by rw [g2]; dsimp only; rw [hp2]
        refine ⟨v, Γ3, he, g1.trans hw', hs3, h1, hE1.trans h2, ?_, fun ys _ => ?_⟩
        · rw [hs3]; simp
        · have := hp3.2 xs (by simp [cellsAt, hp2])
          rw [g4 p' rfl]; exact this
      | own xs len e' =>
        simp only [resA, Option.some.injEq, Prod.mk.injEq] at hres
        obtain ⟨rfl, rfl⟩ := hres
        obtain ⟨p', t, hp1, hp2, hp3⟩ := hF.res
        obtain ⟨Γ3, g1, g2, g3, g4, h1, h2⟩ := mk (some p') (fun q hq' => by cases hq'; exact ⟨.inl hp1, by rw [hp2]; simp⟩)
        have hs3 : Γ3.s = upd s2 d ⟨(s2 d).t + 1, .buf xs⟩ := by rw [g2]; dsimp only; rw [hp2]
        refine ⟨v, Γ3, he, g1.trans hw', hs3, h1, hE1.trans h2, ⟨?_, hp3.1.2⟩, fun ys hy => ?_⟩
        · rw [hs3]; simp
        · have hys : ys = xs := by
            simp [cellsAt, hs3] at hy; exact hy.symm
          subst hys
          have := hp3.2 ys (by simp [cellsAt, hp2])
          rw [g4 p' rfl]; exact this
      | tok xs len e' =>
        simp only [resA, Option.some.injEq, Prod.mk.injEq] at hres
        obtain ⟨rfl, rfl⟩ := hres
        obtain ⟨p', t, hp2, hp3⟩ := hF.res
        obtain ⟨Γ3, g1, g2, g3, g4, h1, h2⟩ := mk (some p') (fun q hq' => by cases hq'; exact ⟨.inr ⟨e', by rw [hp2]⟩, by rw [hp2]; simp⟩)
        have hs3 : Γ3.s = upd s2 d ⟨(s2 d).t + 1, .tok e'⟩ := by rw [g2]; dsimp only; rw [hp2]
        refine ⟨v, Γ3, he, g1.trans hw', hs3, h1, hE1.trans h2, by rw [g3, g1]; exact hp3.1, ?_, fun e2 he2 => ?_⟩
        · rw [hs3]; simp
        · have hee : e2 = e' := by
            simp [hs3] at he2; exact he2.symm
          subst hee
          have := hp3.2.2 e2 hp2
          rw [g4 p' rfl]; exact this
      | owns xs len e' rest =>
        simp only [resA, Option.some.injEq, Prod.mk.injEq] at hres
        obtain ⟨rfl, rfl⟩ := hres
        obtain ⟨p', t, u, us, hp1, hp2, hv1, hp3, hrest⟩ := hF.res
        obtain ⟨Γ3, g1, g2, g3, g4, h1, h2⟩ := mk (some p') (fun q hq' => by cases hq'; exact ⟨.inl hp1, by rw [hp2]; simp⟩)
        have hs3 : Γ3.s = upd s2 d ⟨(s2 d).t + 1, .buf xs⟩ := by rw [g2]; dsimp only; rw [hp2]
        refine ⟨v, Γ3, he, g1.trans hw', hs3, h1, hE1.trans h2, u, us, hv1, ⟨⟨?_, hp3.1.2⟩, fun ys hy => ?_⟩, by rw [g3, g1]; exact hrest⟩
        · rw [hs3]; simp
        · have hys : ys = xs := by
            simp [cellsAt, hs3] at hy; exact hy.symm
          subst hys
          have := hp3.2 ys (by simp [cellsAt, hp2])
          rw [g4 p' rfl]; exact this
  · cases h

theorem loosen_V {x : AV} {v : Value} (h : V Γ x v) (hl : isLent x = true) : V0 Γ.S Γ.w (loosen x) v := by
  unfold V at h
  split at h
  · cases hl
  · cases hl
  · exact h.1
  · cases hl
  · cases hl
  · obtain ⟨b, o, cap, rfl, h1, h2, hc⟩ := h
    exact ⟨_, cap, rfl, by omega, by simp, ⟨rfl, by simp⟩, .inr ⟨b, o, rfl, hc.take _⟩⟩
  · rename_i h1 h2 h3 h4 h5 h6
    unfold loosen
    split
    · exact absurd rfl (h3 _ _ _ _)
    · exact absurd rfl (h6 _ _)
    · exact h
theorem callT_ok {call : FuncId → List Arg → Option Out} (hcall : FnOk P call) (hI : Inv Γ) {f : FuncId} {vs : List AV} {vvs : List Value} {r : AV} (hv : vs.length = vvs.length ∧ ∀ (j : Nat) (x : AV) (v : Value), vs[j]? = some x → vvs[j]? = some v → V0 Γ.S Γ.w x v)
    (h : ((call f (vs.map .tree)).bind fun (r, _) => match r with | .tree v => some v | _ => none) = some r) :
    (∃ fn c, P.funcs[f]? = some fn ∧ fn.name ≠ "runtime.NumGoroutine" ∧ fn.body = some c) ∧ Calls P f vvs.toArray Γ.w (CallTo Γ Γ.s r) := by
    simp only [Option.bind_eq_some_iff] at h
    obtain ⟨⟨res, os⟩, hcf, h⟩ := h
    obtain ⟨hvl, hvv⟩ := hv
    let Γc : G := { φ := Γ.φ, s := st0 (vs.map .tree), S := Γ.S, w := Γ.w }
    have hdead : ∀ j, (Γc.s j).c = .dead := fun j => by
      show (st0 (vs.map .tree) j).c = .dead
      unfold st0
      split <;> first | rfl | (rename_i h'; rw [List.getElem?_map] at h'; cases hq : vs[j]? <;> rw [hq] at h' <;> simp at h')
    have hL : Lent Γ Γc (fun _ => none) := ⟨rfl, rfl, fun _ _ h => by simp at h, fun j _ => hdead j, fun _ _ _ h => by simp at h, fun _ _ h => by simp at h⟩
    have hA : ArgOk Γc (vs.map .tree) vvs := ⟨rfl, by simp [hvl], fun j v hjv => by
      have hjlt : j < vs.length := by
        rw [hvl]
        rcases Nat.lt_or_ge j vvs.length with h | h
        · exact h
        · rw [List.getElem?_eq_none h] at hjv; cases hjv
      have h1 := hvv j vs[j] v (List.getElem?_eq_getElem hjlt) hjv
      have h2 : env0 (vs.map .tree) j = vs[j] := by simp [env0, hjlt]
      rw [h2]
      exact V_cell (Γ := Γc) h1⟩
    refine ⟨(hcall f _ res os hcf).1, ((hcall f _ res os hcf).2 Γc vvs (hL.inv hI) hA).mono fun e w' ⟨v, Γ', he, hw', hI', hE', hF⟩ => ?_⟩
    dsimp only at h
    split at h
    · cases h
      have hmix : Mix Γ Γ' { φ := Γ.φ, s := Γ.s, S := Γ'.S, w := Γ'.w } (fun _ => none) (fun _ => none) :=
        ⟨rfl, rfl, fun _ => Nat.le_refl _, fun q _ => .inr ⟨rfl, rfl, by simp⟩, fun _ _ h => by simp at h, fun _ _ _ h => by simp at h, fun _ _ h => by simp at h, fun _ _ h => by simp at h⟩
      obtain ⟨h1, h2⟩ := hmix.ok hI hL hI' hE'
      exact ⟨v, { φ := Γ.φ, s := Γ.s, S := Γ'.S, w := Γ'.w }, he, hw', rfl, h1, h2, V_cell hF.res⟩
    · cases h
theorem callQ_ok {call : FuncId → List Arg → Option Out} (hcall : FnOk P call) (hI : Inv Γ) {f : FuncId} {vs : List AV} {vvs : List Value} {r : AV} (h : callQ call f vs = some r) (hv : VA Γ vs vvs) :
    (∃ fn c, P.funcs[f]? = some fn ∧ fn.name ≠ "runtime.NumGoroutine" ∧ fn.body = some c) ∧ Calls P f vvs.toArray Γ.w (CallTo Γ Γ.s r) := by
  obtain ⟨hvl, hvv⟩ := VA_iff.1 hv
  unfold callQ at h
  split at h
  · rename_i hall
    exact callT_ok hcall hI ⟨hvl, fun j x v hx hj => (hvv j x v hx hj).to0 (List.all_eq_true.1 hall _ (List.mem_of_getElem? hx))⟩ h
  · split at h
    · rename_i hall
      have e : (vs.map fun v => Arg.tree (loosen v)) = (vs.map loosen).map .tree := by simp
      rw [e] at h
      refine callT_ok hcall hI ⟨by simp [hvl], fun j x v hx hj => ?_⟩ h
      rw [List.getElem?_map] at hx
      cases hq : vs[j]? with
      | none => rw [hq] at hx; cases hx
      | some y =>
        rw [hq] at hx
        cases hx
        exact loosen_V (hvv j y v hq hj) (List.all_eq_true.1 hall _ (List.mem_of_getElem? hq))
    · cases h
end
end Go.Ab

/- A block that is being written grows behind itself, and stays one that is written. Conditions: the room is there. -/
namespace Go.Ab
section
variable {P : Program} {Γ : G} (hI : Inv Γ)
include hI
theorem Inv.growO {p d t t' k : Nat} {xs ys : List AV} {w' : World} (hp : Γ.s p = ⟨t, .buf xs⟩) (hw : Wr Γ.w w' (Γ.φ p).blk ((Γ.φ p).base + xs.length) k) (hys : ys.length = k) (hk : k ≤ (Γ.φ p).spare)
    (hv : ∀ (i : Nat) (x : AV), ys[i]? = some x → ∃ v, w'.cell? ⟨(Γ.φ p).blk, (Γ.φ p).base + xs.length + i, none⟩ = some v ∧ v.oneCell' = true ∧ V0 Γ.S Γ.w x v) (ht : (Γ.s d).t < t') :
    let Γ' : G := { φ := upd Γ.φ d ⟨(Γ.φ p).blk, (Γ.φ p).base, (Γ.φ p).spare - k⟩, s := upd (upd Γ.s p ⟨t, .dead⟩) d ⟨t', .buf (xs ++ ys)⟩, S := Γ.S, w := w' }
    Inv Γ' ∧ Ext Γ Γ' := by
  intro Γ'
  have hrp : ∀ o, Rg Γ p (Γ.φ p).blk o := fun o => by unfold Rg; rw [hp]
  have hr : ∀ o, (Γ.φ p).base + xs.length ≤ o → o < (Γ.φ p).base + xs.length + k → Rg Γ p (Γ.φ p).blk o := fun o _ _ => hrp o
  have hst := hI.wrStays hw hr (S' := Γ.S) (fun _ _ h => h)
  have he := hI.ent p
  unfold EntOk at he
  rw [hp] at he
  simp only [EntC] at he
  have hrg : ∀ q b o, Rg Γ' q b o → (q = d ∧ Rg Γ p b o) ∨ (q ≠ d ∧ q ≠ p ∧ Rg Γ q b o) := fun q b o h => by
    unfold Rg at h
    by_cases hq : q = d
    · subst hq
      simp only [Γ', upd_same] at h
      exact .inl ⟨rfl, by rw [h]; exact hrp o⟩
    · simp only [Γ', upd_ne _ _ hq] at h
      by_cases hqp : q = p
      · subst hqp; simp at h
      · simp only [upd_ne _ _ hqp] at h
        exact .inr ⟨hq, hqp, by unfold Rg; exact h⟩
  refine hI.more (fun q u zs hs h => ?_) ?_
  · by_cases hq : q = d
    · subst hq; simp [Γ'] at h
    · by_cases hqp : q = p
      · subst hqp; simp [Γ', upd_ne _ _ hq] at h
      · have h0 : Γ.s q = ⟨u, .mix zs hs⟩ := by simpa [Γ', upd_ne _ _ hq, upd_ne _ _ hqp] using h
        exact ⟨h0, by simp [Γ', upd_ne _ _ hq], fun o _ => hI.wrKeep hw hr hqp (by unfold Rg; rw [h0])⟩
  refine ⟨⟨fun q => ?_, fun q r b o hqr h1 h2 => ?_, fun b o h => ⟨by show b < w'.heap.size; rw [hw.size]; exact (hI.stay b o h).1, fun q hq => ?_⟩⟩,
    hst, hw.os, hw.tape, hw.output, by show _ ≤ w'.heap.size; rw [hw.size]; exact Nat.le_refl _, fun b _ hn => ?_, fun b o _ hn => ?_, fun b o _ _ => hw.frzAny b o, fun _ _ h => .inl h, fun q b o h => ?_, fun q => ?_, fun q u zs hu h => ?_, fun q u e hu h => ?_⟩
  · unfold EntOk
    by_cases hq : q = d
    · subst hq
      simp only [Γ', upd_same, EntC]
      refine ⟨by rw [hw.size]; exact he.1, fun o => by rw [hw.frzAny]; exact he.2.1 o, fun i x hx => ?_, fun i hi => ?_⟩
      · by_cases hix : i < xs.length
        · rw [List.getElem?_append_left hix] at hx
          obtain ⟨v, h1, h2, h3⟩ := he.2.2.1 i x hx
          exact ⟨v, by rw [hw.cell _ (.inl (by omega))]; exact h1, h2, V0.mono hst _ _ h3⟩
        · rw [List.getElem?_append_right (by omega)] at hx
          obtain ⟨v, h1, h2, h3⟩ := hv (i - xs.length) x hx
          exact ⟨v, by rw [show (Γ.φ p).base + i = (Γ.φ p).base + xs.length + (i - xs.length) by omega]; exact h1, h2, V0.mono hst _ _ h3⟩
      · obtain ⟨v, h1⟩ := he.2.2.2 (k + i) (by omega)
        refine ⟨v, ?_⟩
        rw [List.length_append, hys, hw.cell _ (.inr (by omega)), show (Γ.φ p).base + (xs.length + k) + i = (Γ.φ p).base + xs.length + (k + i) by omega]; exact h1
    · simp only [Γ', upd_ne _ _ hq]
      by_cases hqp : q = p
      · subst hqp; simp only [upd_same, EntC]
      · simp only [upd_ne _ _ hqp]
        exact hI.wrEnt hw hr hqp (fun _ _ h => h)
  · rcases hrg _ _ _ h1 with ⟨rfl, g1⟩ | ⟨n1, n2, g1⟩
    · rcases hrg _ _ _ h2 with ⟨rfl, g2⟩ | ⟨m1, m2, g2⟩
      · exact hqr rfl
      · exact hI.apart r p b o m2 g2 g1
    · rcases hrg _ _ _ h2 with ⟨rfl, g2⟩ | ⟨m1, m2, g2⟩
      · exact hI.apart q p b o n2 g1 g2
      · exact hI.apart q r b o hqr g1 g2
  · rcases hrg _ _ _ hq with ⟨rfl, g1⟩ | ⟨n1, n2, g1⟩
    · exact (hI.stay b o h).2 p g1
    · exact (hI.stay b o h).2 q g1
  · have : b ≠ (Γ.φ p).blk := fun e => hn p 0 (by rw [e]; exact hrp 0)
    exact hw.other b this
  · have : b ≠ (Γ.φ p).blk := fun e => hn p (by rw [e]; exact hrp o)
    exact hw.cellAny (.inl this)
  · rcases hrg _ _ _ h with ⟨rfl, g1⟩ | ⟨n1, n2, g1⟩
    · exact .inl ⟨p, g1⟩
    · exact .inl ⟨q, g1⟩
  · by_cases hq : q = d
    · subst hq; simp only [Γ', upd_same]; omega
    · simp only [Γ', upd_ne _ _ hq]
      by_cases hqp : q = p
      · subst hqp; simp [hp]
      · simp [upd_ne _ _ hqp]
  · by_cases hq : q = d
    · subst hq
      rcases cellsAt_cases h with h' | h' | ⟨_, h'⟩ <;> simp [Γ'] at h' <;> omega
    · by_cases hqp : q = p
      · subst hqp
        rcases cellsAt_cases h with h' | h' | ⟨_, h'⟩ <;> simp [Γ', upd_ne _ _ hq] at h'
      · refine ⟨⟨zs, ?_, rfl⟩, by simp [Γ', upd_ne _ _ hq]⟩
        unfold cellsAt at h ⊢
        simpa [Γ', upd_ne _ _ hq, upd_ne _ _ hqp] using h
  · by_cases hq : q = d
    · subst hq; simp [Γ'] at h
    · by_cases hqp : q = p
      · subst hqp; simp [Γ', upd_ne _ _ hq] at h
      · refine ⟨?_, by simp [Γ', upd_ne _ _ hq]⟩
        simpa [Γ', upd_ne _ _ hq, upd_ne _ _ hqp] using h
end
end Go.Ab

/- append that keeps what it makes writable. Conditions: lengths in range. -/
namespace Go.Ab
section
variable {P : Program} {Γ : G}
theorem appendO_ok (hI : Inv Γ) {at_ : Array TypeId} {d : Nat} {x y r : AV} {s' : St} (h : appendO P at_ d Γ.s x y = some (r, s')) {vx vy : Value} (hx : V Γ x vx) (hy : V Γ y vy) (ty : TypeId) :
    SemOk P (Builtin.append_ at_ ty #[vx, vy]) Γ s' r := by
  unfold appendO at h
  split at h
  · rename_i el h0
    simp only [Option.bind_eq_some_iff] at h
    obtain ⟨e, he, ⟨ys, n⟩, hm, h⟩ := h
    dsimp only at h hm
    split at h
    · rename_i hzo
      obtain ⟨us, hus, hul, hsrc⟩ := moreA_ok hI hm hy
      have hyl : ys.length = n * e := by rw [((VL_iff _ _).1 hus).1, hul]
      obtain ⟨z, hz, hzl⟩ := Option.map_eq_some_iff.1 hzo
      obtain ⟨zv, hzv, rfl, _⟩ := zeroOf_all hz
      have hzs : zv.cells.size = e := by simpa using hzl
      obtain ⟨i, hi, _, hep⟩ := esz_info he
      have h0' : ∃ tt, at_[0]? = some tt ∧ P.underlying tt = some (.slice el) := by
        cases h0q : at_[0]? with
        | none => rw [h0q] at h0; cases h0
        | some tt => rw [h0q] at h0; exact ⟨tt, rfl, tk_sl (by simpa using h0)⟩
      obtain ⟨tt, h0t, hu⟩ := h0'
      have hbi : byOf P el = i.bytes := by simp [byOf, hi]
      split at h
      · -- onto nil
        split at h
        · rename_i hc
          obtain ⟨hgg, hn1, hby, h63⟩ := hc
          rw [hbi] at hby
          cases h
          obtain ⟨a, cap, rfl, hlc, hg, hxs⟩ := sl_value hx
          have hcap := hg hgg.symm
          subst hcap
          obtain ⟨newCap, rest, hnc, hrun, hrest⟩ := run_append_new (P := P) (Γ := Γ) (len := 0) (cap := 0) (os := []) h0t hu he hi hzv hsrc (by simp) (a := a) (by cases a <;> simp [Builtin.firstCells, loadCells, loadCellsFrom]) (by omega) (growslice_fits (by omega) (by rw [Nat.zero_add]; exact hby)) (by omega) ty
          obtain ⟨hI2, hE2⟩ := hI.drew
          have hvl2 : VL Γ.S Γ.w.drew ys us := VL.mono hE2.stays _ _ hus
          obtain ⟨hI3, hE3⟩ := hI2.alloc (d := d) (t := (Γ.s d).t + 1) (by simp) (us ++ rest).toArray el ys us hvl2 rest (by simp)
          have hrl : rest.length = (newCap - n) * e := by
            rw [hrest]; simp [hzs]
          refine ⟨.slice (some ⟨Γ.w.heap.size, 0, none⟩) (0 + n) newCap, _, ?_, ?_, hI3, hE2.trans hE3, ?_⟩
          · rw [hrun]; simp
          · rfl
          · refine ⟨⟨by simp, rfl⟩, fun zs hz => ⟨newCap, by simp, by omega, ?_⟩⟩
            have hzy : zs = ys := by
              rcases cellsAt_cases hz with h' | h' <;> simp at h'
              exact h'.symm
            subst hzy
            simp only [upd_same]
            rw [hyl, hrl]
            have : n * e + (newCap - n) * e = newCap * e := by rw [← Nat.add_mul]; congr 1; omega
            omega
        · cases h
      · -- onto what is being written
        rename_i p t off len e'
        split at h
        · rename_i t' xs hp
          split at h
          · rename_i hc
            obtain ⟨rfl, rfl, rfl, hxl, hby, h63⟩ := hc
            rw [hbi] at hby
            cases h
            obtain ⟨cap, rfl, hlc, hcapr⟩ := hx.2 xs (by simp [cellsAt, hp])
            have hent := hI.ent p
            unfold EntOk at hent
            rw [hp] at hent
            simp only [EntC] at hent
            by_cases hroom : len + n ≤ cap
            · have hmul : (cap - len) * e' = n * e' + (cap - (len + n)) * e' := by rw [← Nat.add_mul]; congr 1; omega
              have hmul2 : cap * e' = len * e' + (cap - len) * e' := by rw [← Nat.add_mul]; congr 1; omega
              obtain ⟨w', hrun, hwr, hcell⟩ := run_storeCells P (Γ.φ p).blk us ((Γ.φ p).base + 0 + len * e') 0 Γ.w hus.oneCells (fun j hj => by
                obtain ⟨v, hv⟩ := hent.2.2.2 j (by omega)
                exact ⟨by rw [show (Γ.φ p).base + 0 + len * e' + 0 + j = (Γ.φ p).base + xs.length + j by omega]; exact ⟨v, hv⟩, hent.2.1 _⟩)
              rw [show (Γ.φ p).base + 0 + len * e' + 0 = (Γ.φ p).base + xs.length by omega, hul] at hwr
              obtain ⟨hI2, hE2⟩ := hI.growO (p := p) (d := d) (t' := (Γ.s d).t + 1) hp hwr hyl (by omega) (fun i x hx => by
                obtain ⟨v, g1, g2, g3⟩ := ((VL_iff _ _).1 hus).2 i x hx
                exact ⟨v, by have := hcell i v g1; rwa [show (Γ.φ p).base + 0 + len * e' + 0 + i = (Γ.φ p).base + xs.length + i by omega] at this, g2, g3⟩) (by omega)
              refine ⟨.slice (some ⟨(Γ.φ p).blk, (Γ.φ p).base + 0, none⟩) (len + n) cap, _, run_append_in h0t hu he hi hsrc hroom ty (a := some ⟨(Γ.φ p).blk, (Γ.φ p).base + 0, none⟩) (w' := w') ?_, rfl, hI2, hE2, ?_⟩
              · show (storeCells ((⟨(Γ.φ p).blk, (Γ.φ p).base + 0, none⟩ : Addr).add (len * e')) us 0).run P Γ.w = _
                rw [add_eq]; exact hrun
              · refine ⟨⟨by simp, rfl⟩, fun zs hz => ⟨cap, by simp, hroom, ?_⟩⟩
                have hzy : zs = xs ++ ys := by
                  rcases cellsAt_cases hz with h' | h' <;> simp at h'
                  exact h'.symm
                subst hzy
                simp only [upd_same, List.length_append]
                omega
            · have hcap : cap < len + n := by omega
              obtain ⟨hI1, hE1⟩ := hI.kill (p := p) (t := t') (by rw [hp]; exact Nat.le_refl _)
              obtain ⟨os, g1, g2⟩ := Firsts.ofReads (P := P) (n := e') (k := len) (cap := cap) (len := len) (hI.read (p := p) (t := t') (xs := xs) (by simp [cellsAt, hp])) hxl
              have hfirst : (Builtin.firstCells e' len (.slice (some ⟨(Γ.φ p).blk, (Γ.φ p).base + 0, none⟩) len cap)).run P Γ.w.drew = .ok os.toArray Γ.w.drew := by
                have := g2 len (Nat.le_refl _) Γ.w.drew (fun _ _ => rfl)
                rwa [List.take_of_length_le (by rw [← ((VL_iff _ _).1 g1).1, hxl]; exact Nat.le_refl _)] at this
              have hol : os.length = len * e' := by rw [← ((VL_iff _ _).1 g1).1, hxl]
              obtain ⟨newCap, rest, hnc, hrun, hrest⟩ := run_append_new (P := P) (Γ := Γ) h0t hu he hi hzv hsrc hol hfirst hcap (growslice_fits hcap hby) h63 ty
              obtain ⟨hI2, hE2⟩ := hI1.drew
              have hvl2 : VL Γ.S Γ.w.drew (xs ++ ys) (os ++ us) := VL.append (VL.mono (hE1.trans hE2).stays _ _ g1) (VL.mono (hE1.trans hE2).stays _ _ hus)
              obtain ⟨hI3, hE3⟩ := hI2.alloc (d := d) (t := (Γ.s d).t + 1) (by
                by_cases hd : d = p
                · subst hd; simp [hp]
                · simp [upd_ne _ _ hd]) (os ++ us ++ rest).toArray el (xs ++ ys) (os ++ us) hvl2 rest (by simp)
              have hrl : rest.length = (newCap - (len + n)) * e' := by
                rw [hrest]; simp [hzs]
              refine ⟨.slice (some ⟨Γ.w.heap.size, 0, none⟩) (len + n) newCap, _, ?_, ?_, hI3, hE1.trans (hE2.trans hE3), ?_⟩
              · rw [hrun]
              · rfl
              · refine ⟨⟨by simp, rfl⟩, fun zs hz => ⟨newCap, by simp, by omega, ?_⟩⟩
                have hzy : zs = xs ++ ys := by
                  rcases cellsAt_cases hz with h' | h' <;> simp at h'
                  exact h'.symm
                subst hzy
                simp only [upd_same, List.length_append]
                rw [hxl, hyl, hrl]
                have : len * e' + n * e' + (newCap - (len + n)) * e' = newCap * e' := by rw [← Nat.add_mul, ← Nat.add_mul]; congr 1; omega
                omega
          · cases h
        · cases h
      · cases h
    · cases h
  · cases h
end
end Go.Ab

/- One operation of the code goes on to what the abstract one tells. No conditions. -/
namespace Go.Ab
section
variable {P : Program} {cfg : Cfg} {Γ : G} {call : FuncId → List Arg → Option Out}

def OpTo (P : Program) (o : Oper) (a : Act) (Γ : G) (s' : St) (r : AV) : Prop :=
  ∀ (next : Act → World → Prop) (Q : Exit → Act → World → Prop), (∀ Γ' v, Γ'.s = s' → Inv Γ' → Ext Γ Γ' → V Γ' r v → next (a.put o.dst v) Γ'.w) → o.wp P a Γ.w next Q

theorem OpTo.sem {o : Oper} {a : Act} {m : Sem Value} {s' : St} {r : AV} (hex : execOp a.eval o = (do pure (.value (← m)))) (h : SemOk P m Γ s' r) : OpTo P o a Γ s' r := by
  obtain ⟨v, Γ', h1, h2, h3, h4, h5⟩ := h
  intro next Q hn
  unfold Oper.wp
  rw [hex, Sem.run_bind, h1]
  exact hn Γ' v h2 h3 h4 h5
theorem OpTo.pure {o : Oper} {a : Act} {m : Sem Value} {r : AV} (hI : Inv Γ) (hex : execOp a.eval o = (do pure (.value (← m)))) (h : PureOk P m Γ r) : OpTo P o a Γ Γ.s r := .sem hex (h.sem hI)
theorem OpTo.val {o : Oper} {a : Act} {v : Value} {r : AV} (hI : Inv Γ) (hex : (execOp a.eval o).run P Γ.w = .ok (.value v) Γ.w) (h : V Γ r v) : OpTo P o a Γ Γ.s r := fun next Q hn => by
  unfold Oper.wp
  rw [hex]
  exact hn Γ v rfl hI (.refl _) h

theorem V_ofV (v : Value) : V Γ (ofV v) v := by
  refine V_cell ?_
  unfold ofV
  split
  · split
    · rename_i cs hc
      exact ⟨cs.toList, by simp, VL_ofV1 _ hc⟩
    · simp [V0]
  · exact V0_ofV1 _

theorem V_ev {env : Env} {a : Act} (h : ∀ t, V Γ (env t) (a.tmps.getD t undef)) (x : Operand) : V Γ (ev env x) (a.eval x) := by
  cases x with
  | tmp t => exact h t
  | const v => exact V_ofV v
  | global g => exact V_cell (x := .undef) (by simp only [V0])
  | func f => exact V_cell ⟨[], rfl, VT.nil⟩

def OpsOk (Γ : G) (env : Env) (a : Act) (o : Oper) : Prop := ∀ x ∈ o.op.operands, V Γ (ev env x) (a.eval x)

theorem VA_map {env : Env} {a : Act} : ∀ (l : List Operand), (∀ x ∈ l, V Γ (ev env x) (a.eval x)) → VA Γ (l.map (ev env)) (l.map a.eval)
  | [], _ => .nil
  | x :: l, h => .cons (h x (List.mem_cons_self ..)) (VA_map l fun y hy => h y (List.mem_cons_of_mem _ hy))
theorem VP_map {env : Env} {a : Act} : ∀ (l : List (Nat × Operand)), (∀ x ∈ l.map (·.2), V Γ (ev env x) (a.eval x)) → VP Γ (l.map fun (i, x) => (i, ev env x)) (l.map fun (i, x) => (i, a.eval x))
  | [], _ => .nil
  | (i, x) :: l, h => .cons (h x (by simp)) (VP_map l fun y hy => h y (by simp only [List.map_cons]; exact List.mem_cons_of_mem _ hy))
theorem VP.ext {Γ' : G} (hE : Ext Γ Γ') {ps : List (Nat × AV)} {vs : List (Nat × Value)} (h : VP Γ ps vs) : VP Γ' ps vs := by
  induction h with
  | nil => exact .nil
  | cons h _ ih => exact .cons (V.ext hE h) ih
theorem settleP_ok : ∀ (ps : List (Nat × AV)) (vs : List (Nat × Value)) (ps' : List (Nat × AV)) (s' : St) (Γ : G), Inv Γ → settleP Γ.s ps = some (ps', s') → VP Γ ps vs → ∃ Γ', Quiet Γ s' Γ' ∧ VP Γ' ps' vs
  | [], vs, ps', s', Γ, hI, h, hv => by
    cases hv
    simp only [settleP, Option.some.injEq, Prod.mk.injEq] at h
    obtain ⟨rfl, rfl⟩ := h
    exact ⟨Γ, ⟨rfl, rfl, hI, .refl _⟩, .nil⟩
  | (i, v) :: ps, vs, ps', s', Γ, hI, h, hv => by
    cases hv with
    | cons h0 hr =>
      simp only [settleP, Option.bind_eq_some_iff] at h
      obtain ⟨⟨v', s1⟩, h1, h⟩ := h
      obtain ⟨⟨ps'', s2⟩, h2, e⟩ := Option.map_eq_some_iff.1 h
      cases e
      obtain ⟨Γ1, ⟨w1, rfl, I1, E1⟩, g1⟩ := settle_ok hI h1 h0
      obtain ⟨Γ2, ⟨w2, e2, I2, E2⟩, g2⟩ := settleP_ok ps _ ps'' s2 Γ1 I1 h2 (hr.ext E1)
      exact ⟨Γ2, ⟨w2.trans w1, e2, I2, E1.trans E2⟩, .cons (V.ext E2 (V_cell g1)) g2⟩
theorem VO_map {env : Env} {a : Act} {x : Option Operand} (h : ∀ y ∈ x, V Γ (ev env y) (a.eval y)) : VO Γ (x.map (ev env)) (x.map a.eval) := by
  cases x with
  | none => trivial
  | some x => exact h x rfl
theorem VA.append {xs ys : List AV} {vs us : List Value} (h : VA Γ xs vs) (k : VA Γ ys us) : VA Γ (xs ++ ys) (vs ++ us) := by
  induction h with
  | nil => exact k
  | cons h _ ih => exact .cons h ih
theorem VA.ofVT : ∀ {xs : List AV} {vs : List Value}, VT Γ.S Γ.w xs vs → VA Γ xs vs
  | [], vs, h => by simp [VT] at h; subst h; exact .nil
  | x :: xs, vs, h => by
    simp only [VT] at h
    obtain ⟨v, r, rfl, h0, hr⟩ := h
    exact .cons (V_cell h0) (VA.ofVT hr)

theorem map_some {α β : Type} {f : α → β} {x : Option α} {y : β} (h : x.map f = some y) : ∃ a, x = some a ∧ f a = y := Option.map_eq_some_iff.1 h

theorem callOp {o : Oper} {a : Act} {c : Call} {fo : Operand} (ho : o.op = .call c) (hc : c.callee = .value fo) {f : FuncId} {caps : List Value} (hf : a.eval fo = .func (.func f) #[] caps.toArray) {s' : St} {r : AV}
    (h : (∃ fn c, P.funcs[f]? = some fn ∧ fn.name ≠ "runtime.NumGoroutine" ∧ fn.body = some c) ∧ Calls P f (c.args.toList.map a.eval ++ caps).toArray Γ.w (CallTo Γ s' r)) : OpTo P o a Γ s' r := by
  obtain ⟨⟨fn, cd, h1, h2, h3⟩, h4⟩ := h
  intro next Q hn
  have hrun : (execOp a.eval o).run P Γ.w = .ok (.enter f (c.args.toList.map a.eval ++ caps).toArray) Γ.w := by
    have hne : (fn.name == "runtime.NumGoroutine") = false := by simpa using h2
    have hargs : c.args.map a.eval ++ caps.toArray = (c.args.toList.map a.eval ++ caps).toArray := by
      apply Array.ext'; simp
    simp only [execOp, ho, resolve, hc, Sem.run_bind, Deferred.ofValue, hf, Sem.run_pure, Result.andThen_ok, invoke, callFunc, run_program, h1, hne, h3, Option.isNone_some, Bool.false_eq_true, if_false, Array.empty_append, hargs]
  unfold Oper.wp
  rw [hrun]
  simp only [Oper.upon]
  refine h4.mono fun e w' ⟨v, Γ', he, hw, hs, hI, hE, hv⟩ => ?_
  subst he; subst hw
  exact hn Γ' v hs hI hE hv
theorem builtinOp {o : Oper} {a : Act} {c : Call} {b : Builtin} {m : Sem Value} (ho : o.op = .call c) (hc : c.callee = .builtin b) (hb : builtin b c.argTypes o.type (c.args.map fun | .const _ => true | _ => false) (c.args.map a.eval) = (do pure (.value (← m)))) :
    execOp a.eval o = (do pure (.value (← m))) := by
  simp only [execOp, ho, resolve, hc]
  exact hb

theorem quiet_slice {t : TypeId} {s : St} {q : Bool} {v r : AV} {lo hi mx : Option AV} (h : sliceA P t s (quietV q v) lo hi mx = some r) : sliceA P t s v lo hi mx = some r := by
  cases q with
  | false => exact h
  | true =>
    cases v with
    | own a b c d e => simp only [quietV, sliceA] at h; cases hk : tkOf P t <;> rw [hk] at h <;> cases h
    | ptr a b c => simp only [quietV, sliceA] at h; cases hk : tkOf P t <;> rw [hk] at h <;> cases h
    | _ => exact h
theorem quiet_sliceY {t : TypeId} {w : Bool} {s : St} {q : Bool} {v r : AV} {lo hi mx : Option AV} (h : sliceY P w t s (quietV q v) lo hi mx = some r) : sliceY P w t s v lo hi mx = some r := by
  unfold sliceY at h ⊢
  split at h
  · rename_i hw
    rw [if_pos hw]
    cases q with
    | false => exact h
    | true =>
      cases v with
      | own a b c d e => simp only [quietV, sliceW] at h; cases hk : tkOf P t <;> rw [hk] at h <;> cases h
      | ptr a b c => simp only [quietV, sliceW] at h; cases hk : tkOf P t <;> rw [hk] at h <;> cases h
      | _ => exact h
  · rename_i hw
    rw [if_neg hw]
    exact quiet_slice h
theorem quiet_app {c : Prop} [Decidable c] {x : Option (AV × St)} {y : AV × St} (h : (if c then none else x) = some y) : x = some y := by
  split at h
  · cases h
  · exact h
theorem opA_ok (hcall : FnOk P call) (hI : Inv Γ) {q : Bool} {o : Oper} {d : Nat} {env : Env} {a : Act} (hev : OpsOk Γ env a o) {r : AV} {s' : St} (h : opA P cfg call q o d env Γ.s = some (r, s')) : OpTo P o a Γ s' r := by
  unfold OpsOk at hev
  unfold opA at h
  dsimp only at h
  split at h
  · -- move
    rename_i x hop
    cases h
    rw [hop] at hev
    exact .val hI (by simp only [execOp, hop]; rfl) (hev x (by simp [Op.operands]))
  · rename_i x hop
    cases h
    rw [hop] at hev
    exact .val hI (by simp only [execOp, hop]; rfl) (hev x (by simp [Op.operands]))
  · -- pick
    rename_i c x y hop
    rw [hop] at hev
    have h1 := hev c (by simp [Op.operands])
    have h2 := hev x (by simp [Op.operands])
    have h3 := hev y (by simp [Op.operands])
    split at h
    · rename_i b hb
      rw [hb, V_bool] at h1
      cases h
      refine .val (v := if b then a.eval x else a.eval y) hI ?_ (by cases b; exact h3; exact h2)
      simp only [execOp, hop, h1, asBool, Sem.run_bind, Sem.run_pure, Result.andThen_ok]
    · cases h
  · -- binOp
    rename_i op t x y yt hop
    rw [hop] at hev
    obtain ⟨r', hr, e⟩ := map_some h
    cases e
    exact .pure hI (by simp only [execOp, hop]) (binA_ok hr (hev x (by simp [Op.operands])) (hev y (by simp [Op.operands])) x y)
  · -- unOp
    rename_i op t x hop
    rw [hop] at hev
    obtain ⟨r', hr, e⟩ := map_some h
    cases e
    exact .pure hI (by simp only [execOp, hop]) (unA_ok hr (hev x (by simp [Op.operands])))
  · -- convert
    rename_i src dst x hop
    rw [hop] at hev
    obtain ⟨r', hr, e⟩ := map_some h
    cases e
    exact .sem (by simp only [execOp, hop]) (convA_ok hI hr (hev x (by simp [Op.operands])))
  · -- extract
    rename_i t i hop
    rw [hop] at hev
    have h1 := hev t (by simp [Op.operands])
    split at h
    · rename_i vs hvs
      obtain ⟨r', hr, e⟩ := map_some h
      cases e
      rw [hvs] at h1
      obtain ⟨us, hu, hvt⟩ := (V_tree rfl).1 h1
      obtain ⟨u, hu1, hu2⟩ := ((VT_iff _ _).1 hvt).2 i _ hr
      refine .pure hI (m := Instr.extract (a.eval t) i) (by simp only [execOp, hop]) ⟨u, ?_, V_cell hu2⟩
      rw [hu]
      simp [Instr.extract, hu1]
    · rename_i p tt off len e rest hvs
      obtain ⟨r', hr, e⟩ := map_some h
      cases e
      rw [hvs] at h1
      obtain ⟨u, us, hu, hV, hvt⟩ := h1
      cases i with
      | zero =>
        cases hr
        refine .pure hI (m := Instr.extract (a.eval t) 0) (by simp only [execOp, hop]) ⟨u, ?_, hV⟩
        rw [hu]
        simp [Instr.extract]
      | succ i =>
        obtain ⟨u', hu1, hu2⟩ := ((VT_iff _ _).1 hvt).2 i _ hr
        refine .pure hI (m := Instr.extract (a.eval t) (i + 1)) (by simp only [execOp, hop]) ⟨u', ?_, V_cell hu2⟩
        rw [hu]
        simp [Instr.extract, hu1]
    · cases h
  · -- load
    rename_i t x hop
    rw [hop] at hev
    obtain ⟨r', hr, e⟩ := map_some h
    cases e
    exact .pure hI (by simp only [execOp, hop]) (loadA_ok hI hr (hev x (by simp [Op.operands])))
  · -- store
    rename_i t x y hop
    rw [hop] at hev
    have hst : ∃ s2, UnitOk P (Instr.storeAt t (a.eval x) (a.eval y)) Γ s2 ∧ (AV.tup [], s2) = (r, s') := by
      split at h
      · obtain ⟨s2, hr, e⟩ := map_some h
        exact ⟨s2, storeH_ok hI hr (hev x (by simp [Op.operands])) (hev y (by simp [Op.operands])), e⟩
      · obtain ⟨s2, hr, e⟩ := map_some h
        exact ⟨s2, storeA_ok hI hr (hev x (by simp [Op.operands])) (hev y (by simp [Op.operands])), e⟩
    obtain ⟨s2, ⟨Γ', h1, h2, h3, h4⟩, e⟩ := hst
    cases e
    intro next Q hn
    unfold Oper.wp
    have : (execOp a.eval o).run P Γ.w = .ok .skip Γ'.w := by simp only [execOp, hop, Sem.run_bind, h1, Result.andThen_ok, Sem.run_pure]
    rw [this]
    exact hn Γ' undef h2 h3 h4 (V_cell ⟨[], rfl, VT.nil⟩)
  · -- fieldAddr
    rename_i t x i hop
    rw [hop] at hev
    obtain ⟨r', hr, e⟩ := map_some h
    cases e
    exact .pure hI (by simp only [execOp, hop]) (fieldAddrA_ok hr (hev x (by simp [Op.operands])))
  · rename_i t x i hop
    rw [hop] at hev
    obtain ⟨r', hr, e⟩ := map_some h
    cases e
    exact .pure hI (by simp only [execOp, hop]) (fieldA_ok hr (hev x (by simp [Op.operands])))
  · rename_i t x i hop
    rw [hop] at hev
    obtain ⟨r', hr, e⟩ := map_some h
    cases e
    exact .pure hI (by simp only [execOp, hop]) (indexAddrA_ok hr (hev x (by simp [Op.operands])) (hev i (by simp [Op.operands])))
  · rename_i t x i hop
    rw [hop] at hev
    obtain ⟨r', hr, e⟩ := map_some h
    cases e
    exact .pure hI (by simp only [execOp, hop]) (indexA_ok hr (hev x (by simp [Op.operands])) (hev i (by simp [Op.operands])))
  · -- slice
    rename_i t x lo hi mx hop
    rw [hop] at hev
    obtain ⟨r', hr, e⟩ := map_some h
    cases e
    refine .pure hI (by simp only [execOp, hop]) (sliceY_ok (quiet_sliceY hr) (hev x (by simp [Op.operands])) (VO_map fun y hy => hev y ?_) (VO_map fun y hy => hev y ?_) (VO_map fun y hy => hev y ?_)) <;>
      (cases hy; simp [Op.operands])
  · -- nilCheck
    rename_i x hop
    rw [hop] at hev
    have h1 := hev x (by simp [Op.operands])
    split at h
    · rename_i p t off hx
      split at h
      · rename_i hl
        cases h
        rw [hx] at h1
        obtain ⟨xs, hxs⟩ := live_iff hl
        have h2 := h1.2 xs hxs
        exact .val hI (by simp only [execOp, hop, h2]; rfl) (by rw [← h2]; exact h1)
      · cases h
    · rename_i xs hx
      cases h
      rw [hx] at h1
      obtain ⟨b, o', h2, _⟩ := (V_tree rfl).1 h1
      exact .val hI (by simp only [execOp, hop, h2]; rfl) (by rw [← h2]; exact h1)
    · cases h
  · -- build
    rename_i t parts hop
    rw [hop] at hev
    have hvp : VP Γ (parts.toList.map fun (i, x) => (i, ev env x)) (parts.map fun (i, x) => (i, a.eval x)).toList := by
      rw [Array.toList_map]
      exact VP_map _ fun x hx => hev x (by simpa [Op.operands] using hx)
    split at h
    · split at h
      · cases h
      simp only [Option.bind_eq_some_iff] at h
      obtain ⟨⟨ps, s1⟩, hps, z, hz, h⟩ := h
      obtain ⟨Γ1, ⟨w1, rfl, I1, E1⟩, hvp1⟩ := settleP_ok _ _ ps s1 Γ hI hps hvp
      dsimp only at h
      split at h
      · simp only [Option.bind_eq_some_iff] at h
        obtain ⟨pl, hpl, h⟩ := h
        obtain ⟨r', hr, e⟩ := map_some h
        cases e
        obtain ⟨r'', hr', rfl⟩ := map_some hr
        obtain ⟨v, k1, k2⟩ := buildA_st (P := P) hz hpl hvp1 hr'
        refine .sem (m := Instr.build t (parts.map fun (i, x) => (i, a.eval x))) (by simp only [execOp, hop]) ⟨v, Γ1, ?_, rfl, I1, E1, k2⟩
        rw [w1] at k1 ⊢; exact k1
      · cases h
    split at h
    · obtain ⟨r', hr, e⟩ := map_some h
      cases e
      exact .pure hI (m := Instr.build t (parts.map fun (i, x) => (i, a.eval x))) (by simp only [execOp, hop]) (buildG_ok hvp hr)
    simp only [Option.bind_eq_some_iff] at h
    obtain ⟨z, hz, h⟩ := h
    split at h
    · simp only [Option.bind_eq_some_iff] at h
      obtain ⟨pl, hpl, h⟩ := h
      obtain ⟨r', hr, e⟩ := map_some h
      cases e
      obtain ⟨r'', hr', rfl⟩ := map_some hr
      exact .pure hI (by simp only [execOp, hop]) (buildA_st hz hpl hvp hr')
    · rename_i m e ht
      simp only [Option.bind_eq_some_iff] at h
      obtain ⟨n, hn, h⟩ := h
      obtain ⟨r', hr, e⟩ := map_some h
      cases e
      obtain ⟨r'', hr', rfl⟩ := map_some hr
      exact .pure hI (by simp only [execOp, hop]) (buildA_arr hz ht hn hvp hr')
    · cases h
  · -- buildSlice
    rename_i t len parts hop
    rw [hop] at hev
    have hvp : VP Γ (parts.toList.map fun (i, x) => (i, ev env x)) (parts.map fun (i, x) => (i, a.eval x)).toList := by
      rw [Array.toList_map]
      exact VP_map _ fun x hx => hev x (by simpa [Op.operands] using hx)
    split at h
    · rename_i e ht
      simp only [Option.bind_eq_some_iff] at h
      obtain ⟨n, hn, z, hz, h⟩ := h
      split at h
      · rename_i hc
        obtain ⟨r', hr, e⟩ := map_some h
        cases e
        obtain ⟨r'', hr', rfl⟩ := map_some hr
        exact .sem (by simp only [execOp, hop]) (buildSlice_ok hI ht hn hz hc.1 hc.2 hvp hr')
      · cases h
    · cases h
  · -- makeSlice
    rename_i t l c hop
    rw [hop] at hev
    exact .sem (by simp only [execOp, hop]) (makeA_ok hI h (hev l (by simp [Op.operands])) (hev c (by simp [Op.operands])))
  · -- alloc
    rename_i t hop
    obtain ⟨z, hz, e⟩ := map_some h
    cases e
    exact .sem (by simp only [execOp, hop]) (allocA_ok hI hz)
  · -- box
    rename_i t x hop
    rw [hop] at hev
    split at h
    · simp only [Option.bind_eq_some_iff] at h
      obtain ⟨v, hs, h⟩ := h
      obtain ⟨xs, hxs, e⟩ := map_some h
      cases e
      exact .sem (m := Instr.box t (a.eval x)) (by simp only [execOp, hop]) (boxT_ok hI hs hxs (hev x (by simp [Op.operands])))
    simp only [Option.bind_eq_some_iff] at h
    obtain ⟨⟨v, s1⟩, hs, h⟩ := h
    obtain ⟨xs, hxs, e⟩ := map_some h
    cases e
    exact .sem (m := Instr.box t (a.eval x)) (by simp only [execOp, hop]) (boxA_ok hI hs hxs (hev x (by simp [Op.operands])))
  · -- makeInterface
    rename_i t x hop
    rw [hop] at hev
    simp only [Option.bind_eq_some_iff] at h
    obtain ⟨v, hv, h⟩ := h
    have h0 := settled_ok hv (hev x (by simp [Op.operands]))
    split at h
    · cases h
    · cases h
    · rename_i hn1 hn2
      cases h
      refine .pure hI (m := Instr.makeInterface t (a.eval x)) (by simp only [execOp, hop]) ⟨.iface t (a.eval x), ?_, V_cell ⟨_, rfl, h0⟩⟩
      have hu : ∃ dd, P.underlying t = some dd ∧ ∀ ms, dd ≠ .interface ms := by
        unfold tkOf at hn1 hn2
        cases hd : P.underlying t with
        | none => rw [hd] at hn2; exact absurd rfl hn2
        | some dd =>
          refine ⟨dd, rfl, fun ms e => ?_⟩
          subst e
          rw [hd] at hn1
          exact absurd rfl hn1
      obtain ⟨dd, hu1, hu2⟩ := hu
      simp only [Instr.makeInterface, Sem.run_bind, run_underlying hu1, Result.andThen_ok]
      cases dd <;> first | rfl | exact absurd rfl (hu2 _)
  · -- call
    rename_i c hop
    rw [hop] at hev
    have hargs : ∀ x ∈ c.args.toList, V Γ (ev env x) (a.eval x) := fun x hx => hev x (by
      simp only [Op.operands, Call.operands, Array.mem_append]; exact .inr (Array.mem_def.2 hx))
    split at h
    · rename_i hb
      split at h
      · rename_i x t hx ht
        obtain ⟨r', hr, e⟩ := map_some h
        cases e
        refine .pure hI (builtinOp (m := Builtin.len_ c.argTypes o.type (c.args.map a.eval)) hop hb rfl) ?_
        have : c.args.map a.eval = #[a.eval x] := by apply Array.ext'; simp [hx]
        rw [this]
        exact lenA_ok hr (hargs x (by rw [hx]; simp)) _ _ ht
      · cases h
    · rename_i hb
      split at h
      · rename_i x y hx
        refine .sem (builtinOp (m := Builtin.append_ c.argTypes o.type (c.args.map a.eval)) hop hb rfl) ?_
        have : c.args.map a.eval = #[a.eval x, a.eval y] := by apply Array.ext'; simp [hx]
        rw [this]
        have h := quiet_app h
        split at h
        · exact appendO_ok hI h (hargs x (by rw [hx]; simp)) (hargs y (by rw [hx]; simp)) _
        · split at h
          · exact appendW_ok hI h (hargs x (by rw [hx]; simp)) (hargs y (by rw [hx]; simp)) _
          · exact appendA_ok hI h (hargs x (by rw [hx]; simp)) (hargs y (by rw [hx]; simp)) _
      · cases h
    · rename_i hb
      split at h
      · rename_i x y hx
        refine .sem (builtinOp (m := Builtin.copy_ c.argTypes o.type (c.args.map a.eval)) hop hb rfl) ?_
        have : c.args.map a.eval = #[a.eval x, a.eval y] := by apply Array.ext'; simp [hx]
        rw [this]
        exact copyA_ok hI h (hargs x (by rw [hx]; simp)) (hargs y (by rw [hx]; simp)) _
      · cases h
    · rename_i hb
      split at h
      · rename_i x l hx
        obtain ⟨r', hr, e⟩ := map_some h
        cases e
        refine .pure hI (builtinOp (m := Builtin.max_ c.argTypes o.type (c.args.map a.eval)) hop hb rfl) ?_
        have hl : (c.args.map a.eval).toList = a.eval x :: l.map a.eval := by simp [hx]
        unfold Builtin.max_
        rw [hl]
        exact foldA_ok (fun _ _ _ _ _ h1 h2 h3 => max2A_ok h1 h2 h3) _ _ _ _ _ (VA_map l fun y hy => hargs y (by rw [hx]; exact List.mem_cons_of_mem _ hy)) hr (hargs x (by rw [hx]; simp))
      · cases h
    · rename_i hb
      split at h
      · rename_i x l hx
        obtain ⟨r', hr, e⟩ := map_some h
        cases e
        refine .pure hI (builtinOp (m := Builtin.min_ c.argTypes o.type (c.args.map a.eval)) hop hb rfl) ?_
        have hl : (c.args.map a.eval).toList = a.eval x :: l.map a.eval := by simp [hx]
        unfold Builtin.min_
        rw [hl]
        exact foldA_ok (fun _ _ _ _ _ h1 h2 h3 => min2A_ok h1 h2 h3) _ _ _ _ _ (VA_map l fun y hy => hargs y (by rw [hx]; exact List.mem_cons_of_mem _ hy)) hr (hargs x (by rw [hx]; simp))
      · cases h
    · rename_i fo hb
      have hfo := hev fo (by simp [Op.operands, Call.operands, hb])
      split at h
      · rename_i f caps hf
        rw [hf] at hfo
        obtain ⟨cs, hcs, hvt⟩ := (V_tree rfl).1 hfo
        have hva : VA Γ (c.args.toList.map (ev env) ++ caps) (c.args.toList.map a.eval ++ cs) := (VA_map _ hargs).append (VA.ofVT hvt)
        split at h
        · split at h
          · exact callOp hop hb hcs (callA_ok hcall hI h hva)
          split at h
          · split at h
            · exact callOp hop hb hcs (callA_ok hcall hI h hva)
            · cases h
          · obtain ⟨r', hr, e⟩ := map_some h
            cases e
            exact callOp hop hb hcs (callQ_ok hcall hI hr hva)
        · exact callOp hop hb hcs (callA_ok hcall hI h hva)
      · cases h
    · cases h
  · cases h
end
end Go.Ab

/- A region of operations goes on to what the abstract one tells, in whatever order. Condition: the program follows the mixed orders. -/
namespace Go.Ab
section
variable {P : Program} {cfg : Cfg} {call : FuncId → List Arg → Option Out}

structure EnvOk (Γ : G) (env : Env) (a : Act) (m : Nat) : Prop where
  defers : a.defers = []
  size : a.tmps.size = m
  val : ∀ t, V Γ (env t) (a.tmps.getD t undef)

theorem put_tmps (a : Act) (d : Option Tmp) (v : Value) : (a.put d v).defers = a.defers ∧ (a.put d v).tmps.size = a.tmps.size := by
  cases d <;> simp [Act.put]
theorem put_get (a : Act) (d : Tmp) (v : Value) (t : Tmp) (hd : d < a.tmps.size) : (a.put (some d) v).tmps.getD t undef = if t = d then v else a.tmps.getD t undef := by
  simp only [Act.put, Array.getD_eq_getD_getElem?, Array.getElem?_setIfInBounds]
  by_cases h : t = d
  · subst h; simp [hd]
  · rw [if_neg h, if_neg (Ne.symm h)]

theorem EnvOk.put {Γ Γ' : G} {env : Env} {a : Act} {m : Nat} (h : EnvOk Γ env a m) (hE : Ext Γ Γ') {d : Option Tmp} (hd : ∀ x, d = some x → x < m) {r : AV} {v : Value} (hv : V Γ' r v) : EnvOk Γ' (setO env d r) (a.put d v) m := by
  obtain ⟨h1, h2⟩ := put_tmps a d v
  refine ⟨h1.trans h.defers, h2.trans h.size, fun t => ?_⟩
  cases d with
  | none => exact V.ext hE (h.val t)
  | some d =>
    rw [put_get a d v t (by rw [h.size]; exact hd d rfl)]
    simp only [setO]
    by_cases ht : t = d
    · subst ht; simp only [upd_same, if_true]; exact hv
    · rw [upd_ne _ _ ht, if_neg ht]; exact V.ext hE (h.val t)

theorem undef_tup {Γ : G} : V Γ (.tup []) undef := V_cell ⟨[], rfl, VT.nil⟩

theorem wantA_ok {Γ : G} {ops : Array Oper} {o : Oper} {env : Env} {a : Act} {b : Bool} (h : wantA ops o env = some b)
    (hv : ∀ j w d, o.guard = some (j, w) → (ops[j]?).bind (·.dst) = some d → V Γ (env d) (a.tmps.getD d undef)) : Region.wanted o (yielded ops a.tmps) = b := by
  unfold wantA at h
  unfold Region.wanted
  split at h
  · rename_i hg; rw [hg]; cases h; rfl
  · rename_i j w hg
    rw [hg]
    dsimp only
    split at h
    · cases h
    · rename_i d hd
      have hV := hv j w d hg hd
      unfold yielded
      rw [hd]
      simp only [Option.bind_some]
      rw [Array.getD_eq_getD_getElem?] at hV
      split at h
      · rename_i c hc
        rw [hc, V_bool] at hV
        cases h
        cases hq : a.tmps[d]? with
        | none => rw [hq] at hV; simp [undef] at hV
        | some x =>
          rw [hq] at hV
          have hx : x = .bool c := hV
          subst hx
          dsimp only
          cases c <;> cases w <;> rfl
      · rename_i vs hc
        rw [hc] at hV
        cases h
        obtain ⟨us, hu, _⟩ := (V_tree rfl).1 hV
        cases hq : a.tmps[d]? with
        | none => rfl
        | some x =>
          rw [hq] at hu
          have hx : x = .tuple us.toArray := hu
          subst hx
          rfl
      · cases h

theorem opsA_ok (hcall : FnOk P call) {q : Bool} {ops : Array Oper} {Q : Exit → Act → World → Prop} {m : Nat} : ∀ (l : List Oper) (env : Env) (Γ : G) (a : Act) (env' : Env) (s' : St),
    (∀ o ∈ l, ∀ d, o.dst = some d → d < m) → opsA P cfg call q ops l env Γ.s = some (env', s') → Inv Γ → EnvOk Γ env a m →
    (∀ Γ' a', Γ'.s = s' → Inv Γ' → Ext Γ Γ' → EnvOk Γ' env' a' m → Q .normal a' Γ'.w) → wpList P ops Q l a Γ.w
  | [], env, Γ, a, env', s', _, h, hI, he, hQ => by
    simp only [opsA, Option.some.injEq, Prod.mk.injEq] at h
    obtain ⟨rfl, rfl⟩ := h
    exact hQ Γ a rfl hI (.refl _) he
  | o :: l, env, Γ, a, env', s', hd, h, hI, he, hQ => by
    have hd1 : ∀ x, o.dst = some x → x < m := hd o (List.mem_cons_self ..)
    have hd2 : ∀ o' ∈ l, ∀ d, o'.dst = some d → d < m := fun o' ho' => hd o' (List.mem_cons_of_mem _ ho')
    have hwant : ∀ b, wantA ops o env = some b → Region.wanted o (yielded ops a.tmps) = b := fun b hb => wantA_ok hb fun _ _ d _ _ => he.val d
    simp only [opsA] at h
    refine wpList_step fun K hK => ?_
    split at h
    · rename_i hw
      rw [hwant true hw]
      simp only [if_true]
      simp only [Option.bind_eq_some_iff] at h
      obtain ⟨⟨r, s1⟩, hop, h⟩ := h
      have hop' := opA_ok hcall hI (a := a) (fun x _ => V_ev he.val x) hop
      refine hop' K Q fun Γ' v hs' hI' hE' hv => hK _ _ ?_
      rw [← hs'] at h
      exact opsA_ok hcall l _ Γ' _ env' s' hd2 h hI' (he.put hE' hd1 hv) fun Γ'' a'' h1 h2 h3 h4 => hQ Γ'' a'' h1 h2 (hE'.trans h3) h4
    · rename_i hw
      rw [hwant false hw]
      simp only [Bool.false_eq_true, if_false]
      refine hK _ _ ?_
      exact opsA_ok hcall l _ Γ _ env' s' hd2 h hI (he.put (.refl _) hd1 undef_tup) hQ
    · cases h
end
end Go.Ab

/- A region that draws its order goes on to what the abstract one tells, in every order. Condition: the program follows the mixed orders. -/
namespace Go.Ab
section
variable {P : Program} {cfg : Cfg} {call : FuncId → List Arg → Option Out}

structure Trace (P : Program) (cfg : Cfg) (call : FuncId → List Arg → Option Out) (q : Bool) (ops : Array Oper) (k n : Nat) (r : Nat → AV) (E : Nat → Env) (Sg : Nat → St) : Prop where
  step : ∀ i, k ≤ i → i < n → ∃ o, ops[i]? = some o ∧ E (i + 1) = setO (E i) o.dst (r i) ∧
    ((wantA ops o (E i) = some true ∧ opA P cfg call q o (o.dst.getD 0) (E i) (Sg i) = some (r i, Sg (i + 1))) ∨ (wantA ops o (E i) = some false ∧ r i = .tup [] ∧ Sg (i + 1) = Sg i))

theorem trace_of {q : Bool} {ops : Array Oper} : ∀ (l : List Oper) (k : Nat) (env : Env) (s : St) (env' : Env) (s' : St), (∀ j, l[j]? = ops[k + j]?) → opsA P cfg call q ops l env s = some (env', s') →
    ∃ r E Sg, E k = env ∧ Sg k = s ∧ E (k + l.length) = env' ∧ Sg (k + l.length) = s' ∧ Trace P cfg call q ops k (k + l.length) r E Sg
  | [], k, env, s, env', s', _, h => by
    simp only [opsA, Option.some.injEq, Prod.mk.injEq] at h
    obtain ⟨rfl, rfl⟩ := h
    exact ⟨fun _ => .undef, fun _ => env, fun _ => s, rfl, rfl, rfl, rfl, ⟨fun i h1 h2 => by simp at h2; omega⟩⟩
  | o :: l, k, env, s, env', s', hl, h => by
    have h0 : ops[k]? = some o := by simpa using (hl 0).symm
    have hl' : ∀ j, l[j]? = ops[k + 1 + j]? := fun j => by have := hl (j + 1); simpa [Nat.add_assoc, Nat.add_comm 1 j] using this
    have key : ∀ (r0 : AV) (s1 : St), opsA P cfg call q ops l (setO env o.dst r0) s1 = some (env', s') →
        ((wantA ops o env = some true ∧ opA P cfg call q o (o.dst.getD 0) env s = some (r0, s1)) ∨ (wantA ops o env = some false ∧ r0 = .tup [] ∧ s1 = s)) →
        ∃ r E Sg, E k = env ∧ Sg k = s ∧ E (k + (o :: l).length) = env' ∧ Sg (k + (o :: l).length) = s' ∧ Trace P cfg call q ops k (k + (o :: l).length) r E Sg := by
      intro r0 s1 hr hcase
      obtain ⟨r, E, Sg, h1, h2, h3, h4, h5⟩ := trace_of l (k + 1) _ _ env' s' hl' hr
      have hlen : k + (o :: l).length = k + 1 + l.length := by simp; omega
      rw [hlen]
      refine ⟨fun i => if i = k then r0 else r i, fun i => if i = k then env else E i, fun i => if i = k then s else Sg i, by simp, by simp, by show (if k + 1 + l.length = k then env else E (k + 1 + l.length)) = env'; rw [if_neg (by omega)]; exact h3, by show (if k + 1 + l.length = k then s else Sg (k + 1 + l.length)) = s'; rw [if_neg (by omega)]; exact h4, ⟨fun i hi1 hi2 => ?_⟩⟩
      by_cases hik : i = k
      · subst hik
        refine ⟨o, h0, ?_, ?_⟩
        · simp only [if_true]; rw [if_neg (by omega), h1]
        · simp only [if_true]
          rw [if_neg (show ¬ (i + 1 = i) by omega), h2]
          exact hcase
      · obtain ⟨o', g1, g2, g3⟩ := h5.step i (by omega) hi2
        refine ⟨o', g1, ?_, ?_⟩
        · simp only [if_neg hik]; rw [if_neg (by omega)]; exact g2
        · simp only [if_neg hik]; rw [if_neg (by omega)]; exact g3
    simp only [opsA] at h
    split at h
    · rename_i hw
      simp only [Option.bind_eq_some_iff] at h
      obtain ⟨⟨r0, s1⟩, hop, h⟩ := h
      exact key r0 s1 h (.inl ⟨hw, hop⟩)
    · rename_i hw
      exact key _ s h (.inr ⟨hw, rfl, rfl⟩)
    · cases h

def Last (ops : Array Oper) (env : Env) (r : Nat → AV) (D : Nat → Prop) (x : Tmp) (y : AV) : Prop :=
  (∃ i, D i ∧ (ops[i]?).bind (·.dst) = some x ∧ (∀ k, D k → (ops[k]?).bind (·.dst) = some x → k ≤ i) ∧ y = r i) ∨ ((∀ k, D k → (ops[k]?).bind (·.dst) ≠ some x) ∧ y = env x)

theorem Last.congr {ops : Array Oper} {env : Env} {r : Nat → AV} {D D' : Nat → Prop} {x : Tmp} {y : AV} (h : Last ops env r D x y) (hd : ∀ k, (ops[k]?).bind (·.dst) = some x → (D k ↔ D' k)) : Last ops env r D' x y := by
  rcases h with ⟨i, h1, h2, h3, h4⟩ | ⟨h1, h2⟩
  · exact .inl ⟨i, (hd i h2).1 h1, h2, fun k hk hx => h3 k ((hd k hx).2 hk) hx, h4⟩
  · exact .inr ⟨fun k hk hx => h1 k ((hd k hx).2 hk) hx, h2⟩

theorem Trace.last {q : Bool} {ops : Array Oper} {n : Nat} {r : Nat → AV} {E : Nat → Env} {Sg : Nat → St} (h : Trace P cfg call q ops 0 n r E Sg) (x : Tmp) : ∀ i, i ≤ n → Last ops (E 0) r (fun k => k < i) x (E i x)
  | 0, _ => .inr ⟨fun _ h => by omega, rfl⟩
  | i + 1, hi => by
    obtain ⟨o, h1, h2, _⟩ := h.step i (Nat.zero_le _) (by omega)
    rw [h2]
    by_cases hx : o.dst = some x
    · rw [hx]
      refine .inl ⟨i, by omega, by rw [h1]; exact hx, fun k hk _ => by omega, by simp [setO]⟩
    · have he : setO (E i) o.dst (r i) x = E i x := by
        cases hd : o.dst with
        | none => rfl
        | some d => exact upd_ne _ _ (fun e => hx (by rw [hd, e]))
      rw [he]
      refine (Trace.last h x i (by omega)).congr fun k hk => ?_
      constructor
      · intro h; omega
      · intro h
        have : k ≠ i := fun e => by subst e; rw [h1] at hk; exact hx hk
        omega

theorem waits_in {ops : Array Oper} {D : Nat → Prop} (hD : ∀ i o, D i → ops[i]? = some o → ∀ e ∈ o.after, Region.binds .any e = true → D e.on) :
    ∀ (f i k : Nat) (o : Oper), ops[i]? = some o → (∀ e ∈ o.after, Region.binds .any e = true → D e.on) → waitsFor ops f i k = true → D k
  | 0, _, _, _, _, _, h => by simp [waitsFor] at h
  | f + 1, i, k, o, ho, hr, h => by
    simp only [waitsFor, ho, Bool.or_eq_true, List.any_eq_true, Bool.and_eq_true, beq_iff_eq] at h
    rcases h with ⟨e, he, hb, rfl⟩ | ⟨e, he, hb, hw⟩
    · exact hr e (Array.mem_def.2 he) hb
    · have hDe := hr e (Array.mem_def.2 he) hb
      cases hoe : ops[e.on]? with
      | none =>
        cases f with
        | zero => simp [waitsFor] at hw
        | succ f => simp [waitsFor, hoe] at hw
      | some oe => exact waits_in hD f e.on k oe hoe (hD e.on oe hDe hoe) hw

structure DrawOk (keep : FuncId → Bool) (ops : Array Oper) (I : Nat → Bool) (m : Nat) : Prop where
  back : ∀ i o, ops[i]? = some o → ∀ e ∈ o.after, Region.binds .any e = true → e.on < i
  ord : ∀ i k o p, k < i → ops[i]? = some o → ops[k]? = some p → touches ops p o = true → waitsFor ops ops.size i k = true
  tail : ∀ (i k : Nat) (o p : Oper), k < i → ops[i]? = some o → ops[k]? = some p → m ≤ i → I i = false → I k = false → waitsFor ops ops.size i k = true
  pre : ∀ i o, i < m → ops[i]? = some o → loudA o = false ∨ (freshD keep o).isSome = true
  noloud : ∀ i o, i < m → ops[i]? = some o → loudC keep o = false
  uniq : ∀ (i k : Nat) (o p : Oper) (d : Nat), k < i → ops[i]? = some o → ops[k]? = some p → freshD keep o = some d → freshD keep p = some d → False
theorem drawOkI_iff {keep : FuncId → Bool} {ops : Array Oper} {I : Nat → Bool} (h : drawOkI keep ops I = true) : DrawOk keep ops I (ops.toList.findIdx (loudB keep)) := by
  unfold drawOkI at h
  simp only [List.all_eq_true, List.mem_range] at h
  have hi : ∀ {i o}, ops[i]? = some o → i < ops.size := fun {i o} ho => by
    rcases Nat.lt_or_ge i ops.size with h | h
    · exact h
    · rw [Array.getElem?_eq_none h] at ho; cases ho
  have main : ∀ i o, ops[i]? = some o → (∀ e ∈ o.after, Region.binds .any e = true → e.on < i) ∧ ∀ k p, k < i → ops[k]? = some p → ((touches ops p o = true ∨ (ops.toList.findIdx (loudB keep) ≤ i ∧ I i = false ∧ I k = false)) → waitsFor ops ops.size i k = true) ∧ sameD keep p o = false := by
    intro i o ho
    have h1 := h i (hi ho)
    rw [ho] at h1
    simp only [Bool.and_eq_true, List.all_eq_true, List.mem_range, Bool.or_eq_true, Bool.not_eq_true', decide_eq_true_eq] at h1
    refine ⟨fun e he hb => ?_, fun k p hk hp => ?_⟩
    · rcases h1.1 e (Array.mem_def.1 he) with h | h
      · rw [hb] at h; cases h
      · exact h
    · have h2 := h1.2 k hk
      rw [hp] at h2
      rw [Bool.and_eq_true] at h2
      refine ⟨fun hc => ?_, by simpa using h2.2⟩
      replace h2 := h2.1
      rw [Bool.or_eq_true, Bool.not_eq_true', Bool.or_eq_false_iff] at h2
      rcases h2 with ⟨h3, h4⟩ | h2
      · rcases hc with hc | ⟨hc, hc1, hc2⟩
        · rw [hc] at h3; cases h3
        · rw [decide_eq_true hc, hc1, hc2] at h4; cases h4
      · exact h2
  refine ⟨fun i o ho => (main i o ho).1, fun i k o p hk ho hp ht => ((main i o ho).2 k p hk hp).1 (.inl ht), fun i k o p hk ho hp hm h1 h2 => ((main i o ho).2 k p hk hp).1 (.inr ⟨hm, h1, h2⟩), fun i o hi' ho => ?_, fun i o hi' ho => ?_, fun i k o p d hk ho hp h1 h2 => ?_⟩
  · have := List.not_of_lt_findIdx hi'
    have e : ops.toList[i]? = some o := by simpa using ho
    rw [List.getElem?_eq_some_iff] at e
    obtain ⟨h1, h2⟩ := e
    rw [h2] at this
    cases hl : loudA o with
    | false => exact .inl rfl
    | true =>
      rw [loudB, hl, Bool.true_and] at this
      cases hf : freshD keep o with
      | none => rw [hf] at this; cases this
      | some d => exact .inr rfl
  · have := List.not_of_lt_findIdx hi'
    have e : ops.toList[i]? = some o := by simpa using ho
    rw [List.getElem?_eq_some_iff] at e
    obtain ⟨h1, h2⟩ := e
    rw [h2] at this
    cases hl : loudC keep o with
    | false => rfl
    | true => rw [loudB, hl, Bool.or_true] at this; cases this
  · have := ((main i o ho).2 k p hk hp).2
    simp [sameD, h1, h2] at this

theorem touches_names {ops : Array Oper} {x y : Oper} {d : Tmp} (hx : x.dst = some d) (hy : d ∈ namesOf ops y) : touches ops x y = true ∧ touches ops y x = true := by
  simp [touches, hx, hy]

def left (n : Nat) (listed : Array Bool) : Nat := (List.range n).countP fun i => !listed.getD i true
theorem left_set {listed : Array Bool} {i : Nat} : ∀ {n : Nat}, i < n → listed.getD i true = false → left n (listed.setIfInBounds i true) + 1 = left n listed
  | 0, h, _ => by omega
  | n + 1, h, hf => by
    have hsz : i < listed.size := by
      rcases Nat.lt_or_ge i listed.size with h | h
      · exact h
      · simp [h] at hf
    unfold left
    rw [List.range_succ, List.countP_append, List.countP_append]
    by_cases hin : i = n
    · subst hin
      have h1 : (List.range i).countP (fun j => !(listed.setIfInBounds i true).getD j true) = (List.range i).countP fun j => !listed.getD j true := by
        apply List.countP_congr
        intro j hj
        rw [getD_set_ne true (by have := List.mem_range.1 hj; omega)]
      rw [h1]
      have h2 : (listed.setIfInBounds i true).getD i true = true := by simp [hsz]
      have h3 : listed[i]?.getD true = false := by rw [← Array.getD_eq_getD_getElem?]; exact hf
      simp [h3]
    · have ih := left_set (listed := listed) (n := n) (by omega) hf
      unfold left at ih
      have h2 : (listed.setIfInBounds i true).getD n true = listed.getD n true := getD_set_ne true hin
      simp only [List.countP_singleton, h2]
      omega
theorem left_zero {listed : Array Bool} {n i : Nat} (h : left n listed = 0) (hi : i < n) : listed.getD i true = true := by
  have := List.countP_eq_zero.1 h i (List.mem_range.2 hi)
  simpa using this

theorem argsA_trees (f : FuncId) (s : St) : ∀ (vs : List AV) (j : Nat), vs.all isTree = true → argsA cfg f s j vs = some (vs.map Arg.tree)
  | [], _, _ => rfl
  | v :: vs, j, h => by
    simp only [List.all_cons, Bool.and_eq_true] at h
    have e : argA cfg f s j v = some (.tree v) := by
      obtain ⟨h, _⟩ := h
      cases v <;> first | rfl | (simp [isTree] at h; done) | (rename_i g; cases g <;> first | rfl | (simp [isTree] at h; done))
    simp only [argsA, e, Option.bind_some, argsA_trees f s vs (j + 1) h.2, Option.map_some, List.map_cons]
theorem gives_tree {v : AV} (a : AV) : givesOf v (.tree a) = none := by cases v <;> first | rfl | (rename_i g; cases g <;> rfl)
theorem lends_tree {v a : AV} (h : isTree v = true) : lendsOf v (.tree a) = none := by cases v <;> first | rfl | simp [isTree] at h
theorem givesL_trees : ∀ vs : List AV, givesL vs (vs.map Arg.tree) = []
  | [] => rfl
  | v :: vs => by simp only [List.map_cons, givesL, gives_tree, givesL_trees vs]
theorem lendsL_trees : ∀ vs : List AV, vs.all isTree = true → lendsL vs (vs.map Arg.tree) = []
  | [], _ => rfl
  | v :: vs, h => by
    simp only [List.all_cons, Bool.and_eq_true] at h
    simp only [List.map_cons, lendsL, lends_tree h.1, lendsL_trees vs h.2]
theorem backA_treesS : ∀ (vs : List AV) (os : List (List AV)) (s s2 : St), backA s vs (vs.map Arg.tree) os = some s2 → s2 = s ∧ ∀ s', backA s' vs (vs.map Arg.tree) os = some s'
  | [], os, s, s2, h => by
    cases os with
    | nil => simp [backA] at h; exact ⟨h.symm, fun s' => rfl⟩
    | cons o os => simp [backA] at h
  | v :: vs, os, s, s2, h => by
    cases os with
    | nil => simp [backA] at h
    | cons o os =>
      simp only [List.map_cons, backA, gives_tree] at h ⊢
      exact backA_treesS vs os s s2 h
theorem callA_treesS {d : Nat} {s s1 : St} {f : FuncId} {vs : List AV} {r : AV} (ht : vs.all isTree = true) (h : callA cfg call d s f vs = some (r, s1)) :
    (∀ p, p ≠ d → s1 p = s p) ∧ (s1 d = s d ∨ (s1 d).t = (s d).t + 1) ∧ ∀ s', s' d = s d → ∃ s1', callA cfg call d s' f vs = some (r, s1') ∧ (∀ p, p ≠ d → s1' p = s' p) ∧ s1' d = s1 d := by
  simp only [callA, argsA_trees f _ vs 0 ht, Option.bind_some, givesL_trees, lendsL_trees vs ht, List.nodup_nil, List.not_mem_nil, false_implies, implies_true, and_self, if_true, List.foldl_nil, ite_self] at h ⊢
  simp only [Option.bind_eq_some_iff] at h
  obtain ⟨⟨res, os⟩, hc, s2, hb, hr⟩ := h
  obtain ⟨rfl, hb'⟩ := backA_treesS vs os s s2 hb
  simp only [hc, Option.bind_some, hb']
  cases res with
  | tree v =>
    simp only [resA, Option.some.injEq, Prod.mk.injEq] at hr
    obtain ⟨rfl, rfl⟩ := hr
    exact ⟨fun _ _ => rfl, .inl rfl, fun s' hs => ⟨s', rfl, fun _ _ => rfl, hs⟩⟩
  | _ =>
    simp only [resA, Option.some.injEq, Prod.mk.injEq] at hr
    obtain ⟨rfl, rfl⟩ := hr
    refine ⟨fun p hp => upd_ne _ _ hp, .inr (by simp [upd]), fun s' hs => ⟨upd s' d _, by simp only [resA, hs]; rfl, fun p hp => upd_ne _ _ hp, by simp [upd]⟩⟩

def Hnd (v : AV) (p t : Nat) : Prop := (∃ off len e, v = .own p t off len e) ∨ ∃ off, v = .ptr p t off
def Mono (s s' : St) (v : AV) : Prop := ∀ p t xs, Hnd v p t → cellsAt s p t = some xs → s' p = s p
section
variable {s s' : St}
theorem mono_quiet {v : AV} (h : Mono s s' v) : Mono s s' (quietV true v) := by
  cases v with
  | own => intro p t xs hh; rcases hh with ⟨_, _, _, e⟩ | ⟨_, e⟩ <;> cases e
  | ptr => intro p t xs hh; rcases hh with ⟨_, _, _, e⟩ | ⟨_, e⟩ <;> cases e
  | _ => exact h
theorem Mono.ptr {p t off : Nat} (h : Mono s s' (.ptr p t off)) {xs : List AV} (hc : cellsAt s p t = some xs) : cellsAt s' p t = some xs := by
  have e := h p t xs (.inr ⟨off, rfl⟩) hc
  unfold cellsAt at hc ⊢; rw [e]; exact hc
theorem Mono.own {p t off len e : Nat} (h : Mono s s' (.own p t off len e)) {xs : List AV} (hc : cellsAt s p t = some xs) : cellsAt s' p t = some xs := by
  have e := h p t xs (.inl ⟨off, len, e, rfl⟩) hc
  unfold cellsAt at hc ⊢; rw [e]; exact hc
theorem Mono.livep {p t off : Nat} (h : Mono s s' (.ptr p t off)) (hl : live s p t = true) : live s' p t = true := by
  obtain ⟨xs, hx⟩ := live_iff hl
  simp [live, h.ptr hx]
theorem Mono.liveo {p t off len e : Nat} (h : Mono s s' (.own p t off len e)) (hl : live s p t = true) : live s' p t = true := by
  obtain ⟨xs, hx⟩ := live_iff hl
  simp [live, h.own hx]
theorem convA_mono {a b : TypeId} {x r : AV} (h : convA P a b s x = some r) (hm : Mono s s' x) : convA P a b s' x = some r := by
  unfold convA at h ⊢
  split at h
  case h_5 =>
    split at h
    · simp only [Option.bind_eq_some_iff] at h ⊢
      obtain ⟨xs, hx, h⟩ := h
      exact ⟨xs, hm.own hx, h⟩
    · cases h
  all_goals exact h
theorem loadA_mono {t : TypeId} {x r : AV} (h : loadA P t s x = some r) (hm : Mono s s' x) : loadA P t s' x = some r := by
  unfold loadA at h ⊢
  split at h
  · exact h
  · rename_i p i off
    have hx : ∃ xs, cellsAt s p i = some xs := by
      rcases ldC_iff h with ⟨xs, hx, _⟩ | ⟨xs, hs, n, hp, _⟩ | ⟨xs, hs, n, _, _, _, _, _, hp, _⟩
      · exact ⟨xs, hx⟩
      · exact ⟨xs, by simp [cellsAt, hp]⟩
      · exact ⟨xs, by simp [cellsAt, hp]⟩
    obtain ⟨xs, hx⟩ := hx
    rw [hm p i xs (.inr ⟨off, rfl⟩) hx]; exact h
  · cases h
theorem fieldAddrA_mono {t i : Nat} {x r : AV} (h : fieldAddrA P t s x i = some r) (hm : Mono s s' x) : fieldAddrA P t s' x i = some r := by
  unfold fieldAddrA at h ⊢
  split at h
  · split at h
    · split at h
      · rename_i hl; rw [if_pos (hm.livep hl)]; exact h
      · cases h
    · exact h
    · cases h
  · cases h
theorem indexAddrA_mono {t : Nat} {x ix r : AV} (h : indexAddrA P t s x ix = some r) (hm : Mono s s' x) : indexAddrA P t s' x ix = some r := by
  unfold indexAddrA at h ⊢
  split at h
  · exact h
  · simp only [Option.bind_eq_some_iff] at h ⊢
    obtain ⟨n, hn, h⟩ := h
    refine ⟨n, hn, ?_⟩
    split at h
    · rename_i hc; rw [if_pos ⟨hm.liveo hc.1, hc.2⟩]; exact h
    · cases h
  · simp only [Option.bind_eq_some_iff] at h ⊢
    obtain ⟨n, hn, h⟩ := h
    refine ⟨n, hn, ?_⟩
    split at h
    · rename_i hc; rw [if_pos ⟨hm.livep hc.1, hc.2⟩]; exact h
    · cases h
  · exact h
  · cases h
theorem lenA_mono {t : Nat} {x r : AV} (h : lenA P t s x = some r) (hm : Mono s s' x) : lenA P t s' x = some r := by
  unfold lenA at h ⊢
  split at h
  · exact h
  · exact h
  · split at h
    · rename_i hl; rw [if_pos (hm.liveo hl)]; exact h
    · cases h
  · exact h
  · cases h
theorem sliceA_mono {t : Nat} {x r : AV} {lo hi mx : Option AV} (h : sliceA P t s x lo hi mx = some r) (hm : Mono s s' x) : sliceA P t s' x lo hi mx = some r := by
  unfold sliceA at h ⊢
  split at h
  · exact h
  · exact h
  · exact h
  · split at h
    · cases h
    · rename_i hc
      simp only [not_or, Bool.not_eq_false] at hc
      rw [if_neg (by simp only [not_or, Bool.not_eq_false]; exact ⟨hc.1, hm.liveo hc.2⟩)]
      exact h
  · split at h
    · cases h
    · rename_i hc
      rw [if_neg hc]
      simp only [Option.bind_eq_some_iff] at h ⊢
      obtain ⟨a, ha, b, hb, c, hc', xs, hx, h⟩ := h
      exact ⟨a, ha, b, hb, c, hc', xs, hm.ptr hx, h⟩
  · cases h
end
theorem sliceY_mono {s s' : St} {t : Nat} {w : Bool} {x r : AV} {lo hi mx : Option AV} (h : sliceY P w t s x lo hi mx = some r) (hm : Mono s s' x) : sliceY P w t s' x lo hi mx = some r := by
  unfold sliceY at h ⊢
  split at h
  · rename_i hw; rw [if_pos hw]; exact h
  · rename_i hw; rw [if_neg hw]; exact sliceA_mono h hm
theorem opA_calm {o : Oper} {d : Nat} {env : Env} {s s' : St} {r : AV} (hl : loudA o = false) (hlc : loudC cfg.keep o = false) (hf : freshD cfg.keep o = none) (h : opA P cfg call true o d env s = some (r, s')) :
    s' = s ∧ ∀ s2, (∀ x ∈ o.op.operands, Mono s s2 (ev env x)) → opA P cfg call true o d env s2 = some (r, s2) := by
  have mp : ∀ {x : Option AV}, x.map (·, s) = some (r, s') → s' = s ∧ x = some r := fun h => by
    obtain ⟨_, hx, e⟩ := map_some h; cases e; exact ⟨rfl, hx⟩
  have hop : ∃ k, o.op = k := ⟨_, rfl⟩
  obtain ⟨k, hop⟩ := hop
  unfold loudA at hl
  unfold opA at h ⊢
  simp only [hop] at h hl ⊢
  cases k
  case move x => simp only [Option.some.injEq, Prod.mk.injEq] at h ⊢; obtain ⟨rfl, rfl⟩ := h; exact ⟨rfl, fun _ _ => ⟨rfl, trivial⟩⟩
  case assign x => simp only [Option.some.injEq, Prod.mk.injEq] at h ⊢; obtain ⟨rfl, rfl⟩ := h; exact ⟨rfl, fun _ _ => ⟨rfl, trivial⟩⟩
  case pick c a b =>
    dsimp only at h ⊢
    split at h
    · simp only [Option.some.injEq, Prod.mk.injEq] at h ⊢; obtain ⟨h1, rfl⟩ := h; exact ⟨rfl, fun _ _ => ⟨h1, trivial⟩⟩
    · cases h
  case binOp => obtain ⟨e, hx⟩ := mp h; exact ⟨e, fun s2 _ => by dsimp only; rw [hx]; rfl⟩
  case unOp => obtain ⟨e, hx⟩ := mp h; exact ⟨e, fun s2 _ => by dsimp only; rw [hx]; rfl⟩
  case convert u v x => obtain ⟨e, hx⟩ := mp h; exact ⟨e, fun s2 hm => by dsimp only; rw [convA_mono hx (hm x (by simp [Op.operands]))]; rfl⟩
  case extract x i =>
    dsimp only at h ⊢
    split at h
    · obtain ⟨e, hx⟩ := mp h; exact ⟨e, fun s2 _ => by rw [hx]; rfl⟩
    · obtain ⟨e, hx⟩ := mp h; exact ⟨e, fun s2 _ => by rw [hx]; rfl⟩
    · cases h
  case load u x => obtain ⟨e, hx⟩ := mp h; exact ⟨e, fun s2 hm => by dsimp only; rw [loadA_mono hx (hm x (by simp [Op.operands]))]; rfl⟩
  case fieldAddr u x i => obtain ⟨e, hx⟩ := mp h; exact ⟨e, fun s2 hm => by dsimp only; rw [fieldAddrA_mono hx (hm x (by simp [Op.operands]))]; rfl⟩
  case field u x i => obtain ⟨e, hx⟩ := mp h; exact ⟨e, fun s2 _ => by dsimp only; rw [hx]; rfl⟩
  case indexAddr u x i => obtain ⟨e, hx⟩ := mp h; exact ⟨e, fun s2 hm => by dsimp only; rw [indexAddrA_mono hx (hm x (by simp [Op.operands]))]; rfl⟩
  case index u x i => obtain ⟨e, hx⟩ := mp h; exact ⟨e, fun s2 _ => by dsimp only; rw [hx]; rfl⟩
  case slice u x lo hi mx => obtain ⟨e, hx⟩ := mp h; exact ⟨e, fun s2 hm => by dsimp only; rw [sliceY_mono hx (mono_quiet (hm x (by simp [Op.operands])))]; rfl⟩
  case nilCheck x =>
    dsimp only at h ⊢
    split at h
    · rename_i p t off hx
      split at h
      · rename_i hlv
        simp only [Option.some.injEq, Prod.mk.injEq] at h; obtain ⟨h1, rfl⟩ := h
        refine ⟨rfl, fun s2 hm => ?_⟩
        have hmx := hm x (by simp [Op.operands])
        rw [hx] at hmx
        rw [if_pos (hmx.livep hlv), h1]
      · cases h
    · simp only [Option.some.injEq, Prod.mk.injEq] at h; obtain ⟨h1, rfl⟩ := h
      exact ⟨rfl, fun s2 _ => by rw [h1]⟩
    · cases h
  case build u parts =>
    dsimp only at h ⊢
    split at h
    · cases h
    rename_i how
    simp only [if_neg how]
    split at h
    · rename_i hg
      obtain ⟨e, hx⟩ := mp h
      exact ⟨e, fun s2 _ => by rw [if_pos hg, hx]; rfl⟩
    rename_i hg
    simp only [if_neg hg]
    simp only [Option.bind_eq_some_iff] at h ⊢
    obtain ⟨z, hz, h⟩ := h
    split at h
    · simp only [Option.bind_eq_some_iff] at h
      obtain ⟨pl, hp, h⟩ := h
      obtain ⟨e, hx⟩ := mp h
      exact ⟨e, fun s2 _ => ⟨z, hz, by simp only [hp, Option.bind_some, hx]; rfl⟩⟩
    · simp only [Option.bind_eq_some_iff] at h
      obtain ⟨pl, hp, h⟩ := h
      obtain ⟨e, hx⟩ := mp h
      exact ⟨e, fun s2 _ => ⟨z, hz, by simp only [hp, Option.bind_some, hx]; rfl⟩⟩
    · cases h
  case buildSlice u len parts =>
    dsimp only at h ⊢
    split at h
    · simp only [Option.bind_eq_some_iff] at h ⊢
      obtain ⟨a, ha, z, hz, h⟩ := h
      split at h
      · rename_i hc
        obtain ⟨e, hx⟩ := mp h
        exact ⟨e, fun s2 _ => ⟨a, ha, z, hz, by rw [if_pos hc, hx]; rfl⟩⟩
      · cases h
    · cases h
  case makeInterface u x =>
    dsimp only at h ⊢
    simp only [Option.bind_eq_some_iff] at h ⊢
    obtain ⟨v, hv, h⟩ := h
    split at h
    · cases h
    · cases h
    · simp only [Option.some.injEq, Prod.mk.injEq] at h; obtain ⟨h1, rfl⟩ := h
      exact ⟨rfl, fun s2 _ => ⟨v, hv, by rw [h1]⟩⟩
  case call c =>
    dsimp only at h hl ⊢
    have hops : ∀ x ∈ c.args.toList, x ∈ (Op.call c).operands := fun x hx => by
      simp only [Op.operands, Call.operands]
      cases c.callee <;> simp [Array.mem_def, hx]
    split at h
    case h_2 hb => rw [hb] at hl; cases hl
    case h_3 hb => rw [hb] at hl; cases hl
    case h_1 hb =>
      split at h
      · rename_i x t hx _
        obtain ⟨e, hv⟩ := mp h
        exact ⟨e, fun s2 hm => by rw [lenA_mono hv (hm x (hops x (by rw [hx]; simp)))]; rfl⟩
      · cases h
    case h_4 hb =>
      split at h
      · obtain ⟨e, hv⟩ := mp h
        exact ⟨e, fun s2 _ => by rw [hv]; rfl⟩
      · cases h
    case h_5 hb =>
      split at h
      · obtain ⟨e, hv⟩ := mp h
        exact ⟨e, fun s2 _ => by rw [hv]; rfl⟩
      · cases h
    case h_6 hb =>
      split at h
      · simp only [if_true, hlc, hf, Option.isSome_none, Bool.false_eq_true, if_false] at h ⊢
        obtain ⟨e, hv⟩ := mp h
        exact ⟨e, fun s2 _ => by rw [hv]; rfl⟩
      · cases h
    · cases h
  all_goals first | (cases hl; done) | (cases h; done)
theorem slice_still {t : TypeId} (s s2 : St) (v : AV) (lo hi mx : Option AV) : sliceA P t s (quietV true v) lo hi mx = sliceA P t s2 (quietV true v) lo hi mx := by
  cases v <;> simp only [quietV, sliceA] <;> (cases tkOf P t <;> rfl)
theorem sliceY_still {t : TypeId} {w : Bool} (s s2 : St) (v : AV) (lo hi mx : Option AV) : sliceY P w t s (quietV true v) lo hi mx = sliceY P w t s2 (quietV true v) lo hi mx := by
  unfold sliceY
  rw [slice_still s s2]
theorem opA_inert {o : Oper} {d : Nat} {env : Env} {s s' : St} {r : AV} (hl : inertA o = true) (h : opA P cfg call true o d env s = some (r, s')) : s' = s ∧ ∀ s2, opA P cfg call true o d env s2 = some (r, s2) := by
  have mp : ∀ {x : Option AV}, x.map (·, s) = some (r, s') → s' = s ∧ x = some r := fun h => by
    obtain ⟨_, hx, e⟩ := map_some h; cases e; exact ⟨rfl, hx⟩
  obtain ⟨k, hop⟩ : ∃ k, o.op = k := ⟨_, rfl⟩
  unfold inertA at hl
  unfold opA at h ⊢
  simp only [hop] at h hl ⊢
  cases k
  case move x => simp only [Option.some.injEq, Prod.mk.injEq] at h ⊢; obtain ⟨rfl, rfl⟩ := h; exact ⟨rfl, fun _ => ⟨rfl, trivial⟩⟩
  case assign x => simp only [Option.some.injEq, Prod.mk.injEq] at h ⊢; obtain ⟨rfl, rfl⟩ := h; exact ⟨rfl, fun _ => ⟨rfl, trivial⟩⟩
  case pick c a b =>
    dsimp only at h ⊢
    split at h
    · simp only [Option.some.injEq, Prod.mk.injEq] at h ⊢; obtain ⟨h1, rfl⟩ := h; exact ⟨rfl, fun _ => ⟨h1, trivial⟩⟩
    · cases h
  case binOp => obtain ⟨e, hx⟩ := mp h; exact ⟨e, fun s2 => by dsimp only; rw [hx]; rfl⟩
  case unOp => obtain ⟨e, hx⟩ := mp h; exact ⟨e, fun s2 => by dsimp only; rw [hx]; rfl⟩
  case extract x i =>
    dsimp only at h ⊢
    split at h
    · obtain ⟨e, hx⟩ := mp h; exact ⟨e, fun s2 => by rw [hx]; rfl⟩
    · obtain ⟨e, hx⟩ := mp h; exact ⟨e, fun s2 => by rw [hx]; rfl⟩
    · cases h
  case field u x i => obtain ⟨e, hx⟩ := mp h; exact ⟨e, fun s2 => by dsimp only; rw [hx]; rfl⟩
  case index u x i => obtain ⟨e, hx⟩ := mp h; exact ⟨e, fun s2 => by dsimp only; rw [hx]; rfl⟩
  case slice u x lo hi mx => obtain ⟨e, hx⟩ := mp h; exact ⟨e, fun s2 => by dsimp only; rw [sliceY_still s2 s, hx]; rfl⟩
  case build u parts =>
    dsimp only at h ⊢
    split at h
    · cases h
    rename_i how
    simp only [if_neg how]
    split at h
    · rename_i hg
      obtain ⟨e, hx⟩ := mp h
      exact ⟨e, fun s2 => by rw [if_pos hg, hx]; rfl⟩
    rename_i hg
    simp only [if_neg hg]
    cases hz : zeroOf P u with
    | none => rw [hz] at h; cases h
    | some z =>
      simp only [hz, Option.bind_some] at h ⊢
      cases hk : tkOf P u with
      | st =>
        simp only [hk] at h ⊢
        cases hp : placesA P u with
        | none => rw [hp] at h; cases h
        | some pl =>
          simp only [hp, Option.bind_some] at h ⊢
          obtain ⟨e, hx⟩ := mp h; exact ⟨e, fun s2 => by rw [hx]; rfl⟩
      | arr m e =>
        simp only [hk] at h ⊢
        cases hp : esz P e with
        | none => rw [hp] at h; cases h
        | some n =>
          simp only [hp, Option.bind_some] at h ⊢
          obtain ⟨e, hx⟩ := mp h; exact ⟨e, fun s2 => by rw [hx]; rfl⟩
      | _ => simp only [hk] at h; cases h
  case buildSlice u len parts =>
    dsimp only at h ⊢
    cases hk : tkOf P u with
    | sl e =>
      simp only [hk] at h ⊢
      cases hp : esz P e with
      | none => rw [hp] at h; cases h
      | some n =>
        cases hz : zeroOf P e with
        | none => rw [hp, hz] at h; cases h
        | some z =>
          simp only [hp, hz, Option.bind_some] at h ⊢
          split at h
          · rename_i hc
            obtain ⟨e, hx⟩ := mp h; exact ⟨e, fun s2 => by rw [if_pos hc, hx]; rfl⟩
          · cases h
    | _ => simp only [hk] at h; cases h
  all_goals (cases hl; done)
theorem fresh_noisy {keep : FuncId → Bool} {o : Oper} {d : Nat} (h : freshD keep o = some d) : inertA o = false := by
  unfold freshD at h
  unfold inertA
  split at h
  · cases h
  · split at h <;> rename_i hop <;> first | (rw [hop]; done) | cases h | skip
    all_goals rw [hop]
theorem more_still {el : TypeId} {n : Nat} {ty : Option TypeId} (s s2 : St) {x : AV} (h : isTree x = true) : moreA P el n ty s x = moreA P el n ty s2 x := by
  unfold moreA
  cases x with
  | own => cases h
  | int kk z => cases ty.map (tkOf P) with
    | none => rfl
    | some k => cases k <;> first | rfl | (cases kk <;> rfl)
  | _ => cases ty.map (tkOf P) with
    | none => rfl
    | some k => cases k <;> rfl
theorem append_nil {us : Array TypeId} {d : Nat} {s s1 : St} {y r : AV} (hy : isTree y = true) (h : appendA P us d s (.sl [] 0 .nil) y = some (r, s1)) :
    (∀ p, p ≠ d → s1 p = s p) ∧ (s1 d = s d ∨ (s1 d).t = (s d).t + 1) ∧ ∀ s', s' d = s d → ∃ s1', appendA P us d s' (.sl [] 0 .nil) y = some (r, s1') ∧ (∀ p, p ≠ d → s1' p = s' p) ∧ s1' d = s1 d := by
  unfold appendA at h ⊢
  cases ht : (us[0]?).map (tkOf P) with
  | none => rw [ht] at h; cases h
  | some k =>
    cases k with
    | sl el =>
      simp only [ht] at h ⊢
      simp only [Option.bind_eq_some_iff] at h
      obtain ⟨e, he, ⟨ys, n⟩, hm, ⟨xs, len, s2⟩, hb, h⟩ := h
      simp only [baseA, List.length_nil, Nat.zero_mul, if_true, Option.some.injEq, Prod.mk.injEq] at hb
      obtain ⟨rfl, rfl, rfl⟩ := hb
      dsimp only at h
      split at h
      · rename_i hc
        simp only [Option.some.injEq, Prod.mk.injEq] at h
        obtain ⟨rfl, rfl⟩ := h
        refine ⟨fun p hp => upd_ne _ _ hp, .inr (by simp [upd]), fun s' hs => ⟨upd s' d ⟨(s' d).t + 1, .tok e⟩, ?_, fun p hp => upd_ne _ _ hp, by simp [upd, hs]⟩⟩
        simp only [he, Option.bind_some, more_still s' s hy, hm, baseA, List.length_nil, Nat.zero_mul, if_true]
        rw [if_pos hc, hs]
      · cases h
    | _ => simp only [ht] at h; cases h
theorem fresh_quiet {keep : FuncId → Bool} {o : Oper} {d : Nat} (h : freshD keep o = some d) : loudC keep o = false := by
  unfold freshD at h
  unfold loudC
  split at h
  · cases h
  · split at h <;> rename_i hop <;> first | (rw [hop]; done) | cases h | skip
    rw [hop]
    dsimp only
    split at h <;> rename_i hb <;> first | (rw [hb]; done) | cases h | skip
    all_goals
      rw [hb]
      try dsimp only
    split at h
    · cases h
    · rename_i hk
      simpa using hk
theorem opA_fresh {o : Oper} {d : Nat} {env : Env} {s s1 : St} {r : AV} (hf : freshD cfg.keep o = some d) (h : opA P cfg call true o d env s = some (r, s1)) :
    (∀ p, p ≠ d → s1 p = s p) ∧ (s1 d = s d ∨ (s1 d).t = (s d).t + 1) ∧ ∀ s', s' d = s d → ∃ s1', opA P cfg call true o d env s' = some (r, s1') ∧ (∀ p, p ≠ d → s1' p = s' p) ∧ s1' d = s1 d := by
  have hf0 := hf
  have hlc := fresh_quiet hf
  unfold freshD at hf
  split at hf
  · cases hf
  · unfold opA at h ⊢
    split at hf
    · rename_i hop
      simp only [hop] at h ⊢
      obtain ⟨z, hz, e⟩ := map_some h
      cases e
      exact ⟨fun p hp => upd_ne _ _ hp, .inr (by simp [upd]), fun s' hs => ⟨upd s' d _, by simp only [hz, Option.map_some, hs]; rfl, fun p hp => upd_ne _ _ hp, by simp [upd]⟩⟩
    · rename_i u l c hop
      simp only [hop] at h ⊢
      unfold makeA at h ⊢
      split at h
      · simp only [Option.bind_eq_some_iff] at h
        obtain ⟨a, ha, z, hz, h⟩ := h
        split at h
        · rename_i hc
          simp only [Option.some.injEq, Prod.mk.injEq] at h
          obtain ⟨rfl, rfl⟩ := h
          exact ⟨fun p hp => upd_ne _ _ hp, .inr (by simp [upd]), fun s' hs => ⟨upd s' d _, by simp only [ha, hz, Option.bind_some, hc, if_true, and_self, hs]; rfl, fun p hp => upd_ne _ _ hp, by simp [upd]⟩⟩
        · cases h
      · cases h
    · rename_i c hop
      simp only [hop] at h ⊢
      split at hf
      · rename_i f hb
        simp only [hb] at h ⊢
        simp only [ev, if_true, hlc, Bool.false_eq_true, if_false, hf0, Option.isSome_some] at h ⊢
        split at h
        · rename_i ht
          have := callA_treesS ht h
          simpa only [ht, if_true] using this
        · cases h
      · rename_i hb
        simp only [hb] at h ⊢
        split at hf
        · rename_i y hx
          simp only [hx, hf0, Option.isSome_some, Bool.true_and, Bool.not_eq_true'] at h ⊢
          have hn : ev env (.const (.slice none 0 0)) = .sl [] 0 .nil := rfl
          rw [hn] at h ⊢
          generalize ev env y = yv at h ⊢
          cases hy : isTree yv with
          | false => rw [hy] at h; simp at h
          | true =>
            simp only [hy, Bool.true_eq_false, if_false, Bool.not_true, Bool.false_and, Bool.false_eq_true] at h ⊢
            exact append_nil hy h
        · cases hf
      · cases hf
    · cases hf

structure PartOk (Γ : G) (ops : Array Oper) (env : Env) (r : Nat → AV) (D : Nat → Prop) (a : Act) (m : Nat) : Prop where
  defers : a.defers = []
  size : a.tmps.size = m
  val : ∀ t y, Last ops env r D t y → V Γ y (a.tmps.getD t undef)

theorem getD_swap {listed : Array Bool} {i : Nat} (hi : i < listed.size) (b c : Bool) : listed.getD i b = listed.getD i c := by simp [hi]

theorem freshD_dst {keep : FuncId → Bool} {o : Oper} {d : Nat} (h : freshD keep o = some d) : o.dst = some d := by
  unfold freshD at h
  (repeat' split at h) <;> first | exact h | cases h
theorem cellsAt_t {s : St} {p t : Nat} {xs : List AV} (h : cellsAt s p t = some xs) : (s p).t = t := by
  unfold cellsAt at h
  rcases hsp : s p with ⟨t', c⟩
  rw [hsp] at h
  cases c with
  | buf ys => dsimp only at h; split at h; assumption; cases h
  | frz ys => dsimp only at h; split at h; assumption; cases h
  | mix ys hs => dsimp only at h; split at h; assumption; cases h
  | dead => cases h
  | tok e => cases h
structure Half (keep : FuncId → Bool) (ops : Array Oper) (mm : Nat) (Sg : Nat → St) (L : Nat → Prop) [DecidablePred L] (s : St) : Prop where
  old : ∀ p, (∀ i o, i < mm → ops[i]? = some o → freshD keep o ≠ some p) → s p = Sg 0 p
  new : ∀ i o p, i < mm → ops[i]? = some o → freshD keep o = some p → s p = if L i then Sg (i + 1) p else Sg 0 p
theorem Trace.half {ops : Array Oper} {mm : Nat} {I : Nat → Bool} (hD : DrawOk cfg.keep ops I mm) {r : Nat → AV} {E : Nat → Env} {Sg : Nat → St} (hT : Trace P cfg call true ops 0 ops.size r E Sg) : ∀ k, k ≤ mm → k ≤ ops.size → Half cfg.keep ops mm Sg (fun i => i < k) (Sg k)
  | 0, _, _ => ⟨fun _ _ => rfl, fun i o p _ _ _ => by simp⟩
  | k + 1, h1, h2 => by
    have ih := Trace.half hD hT k (by omega) (by omega)
    obtain ⟨o, g1, _, g3⟩ := hT.step k (Nat.zero_le _) (by omega)
    have hst : ∀ p, freshD cfg.keep o ≠ some p → Sg (k + 1) p = Sg k p := by
      intro p hp
      rcases g3 with ⟨_, g4⟩ | ⟨_, _, g4⟩
      · cases hf : freshD cfg.keep o with
        | none =>
          rcases hD.pre k o (by omega) g1 with h | h
          · rw [(opA_calm h (hD.noloud k o (by omega) g1) hf g4).1]
          · rw [hf] at h; cases h
        | some d =>
          have hdd : o.dst = some d := freshD_dst hf
          rw [hdd] at g4
          refine (opA_fresh hf g4).1 p fun e => hp ?_
          rw [hf, e]
      · rw [g4]
    refine ⟨fun p hp => (hst p (hp k o (by omega) g1)).trans (ih.old p hp), fun i o' p hi ho' hf => ?_⟩
    by_cases hik : i = k
    · subst hik; simp
    · have hne : freshD cfg.keep o ≠ some p := fun hfo => by
        rcases Nat.lt_or_gt_of_ne hik with h | h
        · exact hD.uniq k i o o' p h g1 ho' hfo hf
        · exact hD.uniq i k o' o p h ho' g1 hf hfo
      rw [hst p hne, ih.new i o' p hi ho' hf]
      by_cases hlt : i < k
      · rw [if_pos hlt, if_pos (show i < k + 1 by omega)]
      · rw [if_neg hlt, if_neg (show ¬ i < k + 1 by omega)]
theorem Half.all {keep : FuncId → Bool} {ops : Array Oper} {mm : Nat} {Sg : Nat → St} {L L' : Nat → Prop} [DecidablePred L] [DecidablePred L'] {s s' : St} (h : Half keep ops mm Sg L s) (h' : Half keep ops mm Sg L' s') (hL : ∀ k o p, k < mm → ops[k]? = some o → freshD keep o = some p → (L k ↔ L' k)) : s = s' := by
  funext p
  by_cases hp : ∀ i o, i < mm → ops[i]? = some o → freshD keep o ≠ some p
  · rw [h.old p hp, h'.old p hp]
  · simp only [Classical.not_forall, Classical.not_not] at hp
    obtain ⟨i, o, hi, ho, hf⟩ := hp
    rw [h.new i o p hi ho hf, h'.new i o p hi ho hf]
    simp only [hL i o p hi ho hf]
structure StillAll (keep : FuncId → Bool) (ops : Array Oper) (E : Nat → Env) (I : Nat → Bool) : Prop where
  same : ∀ i o, ops[i]? = some o → I i = true → ∀ {v s s'}, opA P cfg call true o (o.dst.getD 0) (E i) s = some (v, s') → s' = s ∧ ∀ s2, opA P cfg call true o (o.dst.getD 0) (E i) s2 = some (v, s2)
  fresh : ∀ i o p, ops[i]? = some o → freshD keep o = some p → I i = false
structure StillC (keep : FuncId → Bool) (ops : Array Oper) (E : Nat → Env) (Sg : Nat → St) (I : Nat → Bool) : Prop where
  same : ∀ i o, ops[i]? = some o → I i = true → ∀ {v s'}, opA P cfg call true o (o.dst.getD 0) (E i) (Sg i) = some (v, s') → s' = Sg i ∧ ∀ s2, (∀ p, (∀ j, j ≤ ops.size → Sg j p = Sg 0 p) → s2 p = Sg 0 p) → opA P cfg call true o (o.dst.getD 0) (E i) s2 = some (v, s2)
  fresh : ∀ i o p, ops[i]? = some o → freshD keep o = some p → I i = false
structure StillOk (keep : FuncId → Bool) (ops : Array Oper) (E : Nat → Env) (Sg : Nat → St) (I : Nat → Bool) : Prop where
  same : ∀ i o, ops[i]? = some o → I i = true → ∀ {v s'}, opA P cfg call true o (o.dst.getD 0) (E i) (Sg i) = some (v, s') → s' = Sg i ∧ ∀ s2, (∀ p, (∀ k, k < ops.size → Sg (k + 1) p = Sg k p ∨ waitsFor ops ops.size k i = true) → s2 p = Sg 0 p) → opA P cfg call true o (o.dst.getD 0) (E i) s2 = some (v, s2)
  fresh : ∀ i o p, ops[i]? = some o → freshD keep o = some p → I i = false
theorem StillC.ok {keep : FuncId → Bool} {ops : Array Oper} {E : Nat → Env} {Sg : Nat → St} {I : Nat → Bool} (h : StillC (P := P) (cfg := cfg) (call := call) keep ops E Sg I) : StillOk (P := P) (cfg := cfg) (call := call) keep ops E Sg I :=
  ⟨fun i o ho hI _ _ hop => ⟨(h.same i o ho hI hop).1, fun s2 hs2 => (h.same i o ho hI hop).2 s2 fun p hp => hs2 p fun k hk => .inl (by rw [hp (k + 1) (by omega), hp k (by omega)])⟩, h.fresh⟩
theorem StillAll.ok {keep : FuncId → Bool} {ops : Array Oper} {E : Nat → Env} {I : Nat → Bool} (h : StillAll (P := P) (cfg := cfg) (call := call) keep ops E I) (Sg : Nat → St) : StillOk (P := P) (cfg := cfg) (call := call) keep ops E Sg I :=
  ⟨fun i o ho hI _ _ hop => ⟨(h.same i o ho hI hop).1, fun s2 _ => (h.same i o ho hI hop).2 s2⟩, h.fresh⟩
theorem Trace.still {ops : Array Oper} {r : Nat → AV} {E : Nat → Env} {Sg : Nat → St} {I : Nat → Bool} (hS : StillOk (P := P) (cfg := cfg) (call := call) cfg.keep ops E Sg I) (hT : Trace P cfg call true ops 0 ops.size r E Sg) (i : Nat) : ∀ j, i ≤ j → j ≤ ops.size → (∀ k o, i ≤ k → k < j → ops[k]? = some o → I k = true) → Sg j = Sg i
  | 0, h, _, _ => by have : i = 0 := by omega
                     subst this; rfl
  | j + 1, h, hj, hk => by
    by_cases hij : i = j + 1
    · subst hij; rfl
    · have ih := Trace.still hS hT i j (by omega) (by omega) fun k o h1 h2 h3 => hk k o h1 (by omega) h3
      obtain ⟨o, g1, _, g3⟩ := hT.step j (Nat.zero_le _) (by omega)
      have hin := hk j o (by omega) (by omega) g1
      rcases g3 with ⟨_, g4⟩ | ⟨_, _, g4⟩
      · rw [(hS.same j o g1 hin g4).1, ih]
      · rw [g4, ih]
theorem draw_ok (hcall : FnOk P call) {ops : Array Oper} {mm : Nat} {Q : Exit → Act → World → Prop} {I : Nat → Bool} (hD : DrawOk cfg.keep ops I mm) {m : Nat} (hd : ∀ o ∈ ops.toList, ∀ d, o.dst = some d → d < m)
    {r : Nat → AV} {E : Nat → Env} {Sg : Nat → St} (hT : Trace P cfg call true ops 0 ops.size r E Sg) (hS : StillOk (P := P) (cfg := cfg) (call := call) cfg.keep ops E Sg I) (hkill : ∀ (i : Nat) o p, ops[i]? = some o → freshD cfg.keep o = some p → (Sg 0 p).c = .dead) {Γ0 : G}
    (hQ : ∀ Γ' a', Γ'.s = Sg ops.size → Inv Γ' → Ext Γ0 Γ' → EnvOk Γ' (E ops.size) a' m → Q .normal a' Γ'.w) :
    ∀ (fuel : Nat) (listed : Array Bool) (Γ : G) (a : Act), listed.size = ops.size → left ops.size listed ≤ fuel → Inv Γ → Ext Γ0 Γ →
      (∀ i o, listed.getD i false = true → ops[i]? = some o → ∀ e ∈ o.after, Region.binds .any e = true → listed.getD e.on false = true) →
      PartOk Γ ops (E 0) r (fun i => listed.getD i false = true) a m →
      (((∀ (i : Nat) o, ops[i]? = some o → I i = false → listed.getD i false = true → i < mm) ∧ Half cfg.keep ops mm Sg (fun i => listed.getD i false = true) Γ.s) ∨ ∃ i, mm ≤ i ∧ i ≤ ops.size ∧ (∀ (k : Nat) o, ops[k]? = some o → I k = false → (listed.getD k false = true ↔ k < i)) ∧ Γ.s = Sg i) →
      wpAny P .any ops Q fuel listed a Γ.w := by
  have hsz : ∀ {i o}, ops[i]? = some o → i < ops.size := fun {i o} ho => by
    rcases Nat.lt_or_ge i ops.size with h | h
    · exact h
    · rw [Array.getElem?_eq_none h] at ho; cases ho
  have hall : ∀ (listed : Array Bool), listed.size = ops.size → Region.ready .any ops listed = [] → ∀ i, i < ops.size → listed.getD i false = true := by
    intro listed hls hr i
    induction i using Nat.strongRecOn with
    | _ i ih =>
      intro hi
      by_cases hli : listed.getD i false = true
      · exact hli
      · exfalso
        have hmem : i ∈ Region.ready .any ops listed := mem_ready.2 ⟨by rw [getD_swap (by omega) true false]; simpa using hli, ops[i], Array.getElem?_eq_getElem hi, fun e he hb => by
          have := hD.back i ops[i] (Array.getElem?_eq_getElem hi) e he hb
          exact ih e.on this (by omega)⟩
        rw [hr] at hmem; cases hmem
  have hdone : ∀ (listed : Array Bool) (Γ : G) (a : Act), listed.size = ops.size → (∀ i, i < ops.size → listed.getD i false = true) → Inv Γ → Ext Γ0 Γ → PartOk Γ ops (E 0) r (fun i => listed.getD i false = true) a m →
      (((∀ (i : Nat) o, ops[i]? = some o → I i = false → listed.getD i false = true → i < mm) ∧ Half cfg.keep ops mm Sg (fun i => listed.getD i false = true) Γ.s) ∨ ∃ i, mm ≤ i ∧ i ≤ ops.size ∧ (∀ (k : Nat) o, ops[k]? = some o → I k = false → (listed.getD k false = true ↔ k < i)) ∧ Γ.s = Sg i) → Q .normal a Γ.w := by
    intro listed Γ a hls hfull hI hE hp hst
    refine hQ Γ a ?_ hI hE ⟨hp.defers, hp.size, fun t => hp.val t _ ?_⟩
    · rcases hst with ⟨h1, h2⟩ | ⟨i, h1, h2, h3, h4⟩
      · rcases Nat.lt_or_ge ops.size mm with hmm | hmm
        · exact h2.all (hT.half hD ops.size (by omega) (Nat.le_refl _)) fun k o p hk ho _ => ⟨fun _ => hsz ho, fun _ => hfull k (hsz ho)⟩
        · rw [hT.still hS mm ops.size hmm (Nat.le_refl _) fun k o hk1 hk2 ho => by
            cases hin : I k with
            | true => rfl
            | false => have := h1 k o ho hin (hfull k (hsz ho)); omega]
          exact h2.all (hT.half hD mm (Nat.le_refl _) hmm) fun k o p hk ho _ => ⟨fun _ => hk, fun _ => hfull k (hsz ho)⟩
      · rw [h4, hT.still hS i ops.size h2 (Nat.le_refl _) fun k o hk1 hk2 ho => by
          cases hin : I k with
          | true => rfl
          | false => have := (h3 k o ho hin).1 (hfull k (hsz ho)); omega]
    · refine (hT.last t ops.size (Nat.le_refl _)).congr fun k hk => ?_
      have hklt : k < ops.size := by
        cases hok : ops[k]? with
        | none => rw [hok] at hk; cases hk
        | some o => exact hsz hok
      exact ⟨fun _ => hfull k hklt, fun _ => hklt⟩
  intro fuel
  induction fuel with
  | zero =>
    intro listed Γ a hls hleft hI hE hcl hp hst
    have hfull : ∀ i, i < ops.size → listed.getD i false = true := fun i hi => by
      rw [getD_swap (by omega) false true]; exact left_zero (by omega) hi
    refine ⟨?_, hdone listed Γ a hls hfull hI hE hp hst⟩
    cases hr : Region.ready .any ops listed with
    | nil => rfl
    | cons i l =>
      exfalso
      have hmem : i ∈ Region.ready .any ops listed := by rw [hr]; exact List.mem_cons_self ..
      obtain ⟨h1, o, ho, _⟩ := mem_ready.1 hmem
      have := hfull i (hsz ho)
      rw [getD_swap (by have := hsz ho; omega) false true, h1] at this
      cases this
  | succ fuel ih =>
    intro listed Γ a hls hleft hI hE hcl hp hst
    refine ⟨fun hr => hdone listed Γ a hls (hall listed hls hr) hI hE hp hst, fun i hi => ?_⟩
    obtain ⟨hun, o, ho, hafter⟩ := mem_ready.1 hi
    have hilt := hsz ho
    have hunf : ¬ listed.getD i false = true := by rw [getD_swap (by omega) false true, hun]; simp
    have hwait : ∀ k, waitsFor ops ops.size i k = true → listed.getD k false = true := fun k hk => waits_in (D := fun k => listed.getD k false = true) hcl ops.size i k o ho hafter hk
    -- a writer of what is named here stands before, or behind
    have hord : ∀ k p, ops[k]? = some p → (∀ d, p.dst = some d → d ∈ namesOf ops o → (listed.getD k false = true ↔ k < i)) := by
      intro k p hk d hd' hdn
      obtain ⟨t1, t2⟩ := touches_names hd' hdn
      constructor
      · intro hlk
        rcases Nat.lt_trichotomy k i with h | h | h
        · exact h
        · subst h; exact absurd hlk hunf
        · exfalso
          have hw := hD.ord k i p o h hk ho t2
          have := waits_in (D := fun k => listed.getD k false = true) hcl ops.size k i p hk (hcl k p hlk hk) hw
          exact hunf this
      · intro h
        exact hwait k (hD.ord i k o p h ho hk t1)
    have hread : ∀ t, t ∈ namesOf ops o → V Γ (E i t) (a.tmps.getD t undef) := fun t ht => by
      refine hp.val t _ ((hT.last t i (by omega)).congr fun k hk => ?_)
      cases hok : ops[k]? with
      | none => rw [hok] at hk; cases hk
      | some p =>
        rw [hok] at hk
        exact (hord k p hok t hk ht).symm
    obtain ⟨o', g1, g2, g3⟩ := hT.step i (Nat.zero_le _) hilt
    rw [ho] at g1; cases g1
    have hsi : I i = false → ((∀ (k : Nat) o, ops[k]? = some o → I k = false → listed.getD k false = true → k < mm) ∧ i < mm ∧ Half cfg.keep ops mm Sg (fun i => listed.getD i false = true) Γ.s) ∨ (mm ≤ i ∧ (∀ (k : Nat) o, ops[k]? = some o → I k = false → (listed.getD k false = true ↔ k < i)) ∧ Γ.s = Sg i) := by
      intro hin
      rcases hst with ⟨h1, h2⟩ | ⟨j, h1, h2, h3, h4⟩
      · by_cases him : i < mm
        · exact .inl ⟨h1, him, h2⟩
        · -- all that asks the store stands there, as far as before: it is the first loud one
          have hb : ∀ (k : Nat) p, k < i → ops[k]? = some p → I k = false → listed.getD k false = true := fun k p hk hp hpi => hwait k (hD.tail i k o p hk ho hp (by omega) hin hpi)
          refine .inr ⟨by omega, fun k p hp hpi => ⟨fun hk => by have := h1 k p hp hpi hk; omega, fun hk => hb k p hk hp hpi⟩, ?_⟩
          rw [hT.still hS mm i (by omega) (by omega) fun k p hk1 hk2 hp => by
            cases hpi : I k with
            | true => rfl
            | false => have := h1 k p hp hpi (hb k p hk2 hp hpi); omega]
          exact h2.all (hT.half hD mm (Nat.le_refl _) (by omega)) fun k p q hk hp hf => ⟨fun _ => hk, fun _ => hb k p (by omega) hp (hS.fresh k p _ hp hf)⟩
      · have hji : j ≤ i := by
          rcases Nat.lt_or_ge i j with h | h
          · exact absurd ((h3 i o ho hin).2 h) hunf
          · exact h
        have hb : ∀ (k : Nat) p, k < i → ops[k]? = some p → I k = false → k < j := fun k p hk hp hpi => (h3 k p hp hpi).1 (hwait k (hD.tail i k o p hk ho hp (by omega) hin hpi))
        refine .inr ⟨by omega, fun k p hp hpi => ⟨fun hk => by have := (h3 k p hp hpi).1 hk; omega, fun hk => (h3 k p hp hpi).2 (hb k p hk hp hpi)⟩, ?_⟩
        rw [h4, hT.still hS j i hji (by omega) fun k p hk1 hk2 hp => by
          cases hpi : I k with
          | true => rfl
          | false => have := hb k p hk2 hp hpi; omega]
    have hPr : ∀ p, (∀ k, k < ops.size → Sg (k + 1) p = Sg k p ∨ waitsFor ops ops.size k i = true) → Γ.s p = Sg 0 p := fun p hp' => by
      have hnw : ∀ (k : Nat) pk, listed.getD k false = true → ops[k]? = some pk → ¬ waitsFor ops ops.size k i = true := fun k pk hk hpk hw =>
        hunf (waits_in (D := fun k => listed.getD k false = true) hcl ops.size k i pk hpk (hcl k pk hk hpk) hw)
      rcases hst with ⟨_, h2⟩ | ⟨j, _, h2, h3, h4⟩
      · by_cases hnf : ∀ i o, i < mm → ops[i]? = some o → freshD cfg.keep o ≠ some p
        · exact h2.old p hnf
        · simp only [Classical.not_forall, Classical.not_not] at hnf
          obtain ⟨k, o2, hk, ho2, hf⟩ := hnf
          rw [h2.new k o2 p hk ho2 hf]
          split
          · rename_i hlk
            rw [(hp' k (hsz ho2)).resolve_right (hnw k o2 hlk ho2)]
            have hkk := (hT.half hD k (by omega) (by have := hsz ho2; omega)).new k o2 p hk ho2 hf
            simpa using hkk
          · rfl
      · rw [h4]
        have key : ∀ j', j' ≤ j → Sg j' p = Sg 0 p := by
          intro j'
          induction j' with
          | zero => intro _; rfl
          | succ k ihk =>
            intro hkj
            rw [← ihk (by omega)]
            rcases hp' k (by omega) with h | h
            · exact h
            · obtain ⟨ok, g1, _, g3⟩ := hT.step k (Nat.zero_le _) (by omega)
              cases hin : I k with
              | true =>
                rcases g3 with ⟨_, g4⟩ | ⟨_, _, g4⟩
                · rw [(hS.same k ok g1 hin g4).1]
                · rw [g4]
              | false => exact absurd h (hnw k ok ((h3 k ok g1 hin).2 (by omega)) g1)
        exact key j (Nat.le_refl _)
    have hd1 : ∀ x, o.dst = some x → x < m := hd o (by
      have e : ops.toList[i]? = some o := by simpa using ho
      exact List.mem_of_getElem? e)
    have hwant : ∀ b, wantA ops o (E i) = some b → Region.wanted o (yielded ops a.tmps) = b := fun b hb => wantA_ok hb fun j w d hg hdj => hread d (by
      simp only [namesOf, readsOf, hg, hdj, List.mem_append]
      exact .inr (.inr (by simp)))
    have hi' : listed.size = (listed.setIfInBounds i true).size := by simp
    -- on, with one more listed
    have hlist0 : ∀ k, (listed.setIfInBounds i true).getD k false = true ↔ (listed.getD k false = true ∨ k = i) := fun k => by
      by_cases hk : k = i
      · subst hk
        have hks : k < listed.size := by omega
        simp [hks]
      · rw [getD_set_ne false (Ne.symm hk)]; simp [hk]
    have hon : ∀ (Γ' : G) (v : Value), (((∀ (k : Nat) o, ops[k]? = some o → I k = false → (listed.setIfInBounds i true).getD k false = true → k < mm) ∧ Half cfg.keep ops mm Sg (fun k => (listed.setIfInBounds i true).getD k false = true) Γ'.s) ∨ ∃ j, mm ≤ j ∧ j ≤ ops.size ∧ (∀ (k : Nat) o, ops[k]? = some o → I k = false → ((listed.setIfInBounds i true).getD k false = true ↔ k < j)) ∧ Γ'.s = Sg j) → Inv Γ' → Ext Γ Γ' → V Γ' (r i) v → wpAny P .any ops Q fuel (listed.setIfInBounds i true) (a.put o.dst v) Γ'.w := by
      intro Γ' v hs' hI' hE' hv
      have hlist : ∀ k, (listed.setIfInBounds i true).getD k false = true ↔ (listed.getD k false = true ∨ k = i) := fun k => by
        by_cases hk : k = i
        · subst hk
          have hks : k < listed.size := by omega
          simp [hks]
        · rw [getD_set_ne false (Ne.symm hk)]; simp [hk]
      refine ih _ Γ' _ (by omega) (by have := left_set (listed := listed) (n := ops.size) (i := i) hilt hun; omega) hI' (hE.trans hE') (fun j p hj hp' e he hb => ?_) ⟨(put_tmps a o.dst v).1.trans hp.defers, (put_tmps a o.dst v).2.trans hp.size, fun t y hy => ?_⟩ ?_
      · rw [hlist] at hj ⊢
        rcases hj with hj | rfl
        · exact .inl (hcl j p hj hp' e he hb)
        · rw [ho] at hp'; cases hp'; exact .inl (hafter e he hb)
      · by_cases htd : o.dst = some t
        · -- what it wrote
          have hget : (a.put o.dst v).tmps.getD t undef = v := by
            rw [htd, put_get a t v t (by rw [hp.size]; exact hd1 t htd)]; simp
          rw [hget]
          have hnm : t ∈ namesOf ops o := by simp [namesOf, htd]
          rcases hy with ⟨k, h1, h2, h3, h4⟩ | ⟨h1, _⟩
          · have hki : k = i := by
              have h5 := h3 i ((hlist i).2 (.inr rfl)) (by rw [ho]; exact htd)
              rcases (hlist k).1 h1 with h6 | h6
              · cases hok : ops[k]? with
                | none => rw [hok] at h2; cases h2
                | some p =>
                  rw [hok] at h2
                  have := (hord k p hok t h2 hnm).1 h6
                  omega
              · exact h6
            rw [h4, hki]; exact hv
          · exact absurd (by rw [ho]; exact htd) (h1 i ((hlist i).2 (.inr rfl)))
        · have hget : (a.put o.dst v).tmps.getD t undef = a.tmps.getD t undef := by
            cases hdd : o.dst with
            | none => rfl
            | some d =>
              rw [put_get a d v t (by rw [hp.size]; exact hd1 d hdd), if_neg (fun e => htd (by rw [hdd, e]))]
          rw [hget]
          refine V.ext hE' (hp.val t y (hy.congr fun k hk => ?_))
          rw [hlist]
          constructor
          · rintro (h | rfl)
            · exact h
            · rw [ho] at hk; exact absurd hk htd
          · exact .inl
      · exact hs'
    have hopsV : OpsOk Γ (E i) a o := fun x hx => by
      cases x with
      | tmp t => exact hread t (by
          simp only [namesOf, readsOf, tmpsOf, List.mem_append, List.mem_filterMap]
          exact .inr (.inl ⟨.tmp t, Array.mem_def.1 hx, rfl⟩))
      | const v => exact V_ofV v
      | global g => exact V_cell (x := .undef) (by simp only [V0])
      | func f => exact V_cell ⟨[], rfl, VT.nil⟩
    -- behind the operation
    have hnext : ∀ s1 : St, (I i = true → s1 = Γ.s) → (I i = false → mm ≤ i → s1 = Sg (i + 1)) → (i < mm → (∀ p, freshD cfg.keep o ≠ some p → s1 p = Γ.s p) ∧ ∀ p, freshD cfg.keep o = some p → s1 p = Sg (i + 1) p) →
        (((∀ (k : Nat) o, ops[k]? = some o → I k = false → (listed.setIfInBounds i true).getD k false = true → k < mm) ∧ Half cfg.keep ops mm Sg (fun k => (listed.setIfInBounds i true).getD k false = true) s1) ∨ ∃ j, mm ≤ j ∧ j ≤ ops.size ∧ (∀ (k : Nat) o, ops[k]? = some o → I k = false → ((listed.setIfInBounds i true).getD k false = true ↔ k < j)) ∧ s1 = Sg j) := by
      intro s1 hi0 ht hp
      cases hin : I i with
      | true =>
        rw [hi0 hin]
        have hsame : ∀ (k : Nat) o', ops[k]? = some o' → I k = false → ((listed.setIfInBounds i true).getD k false = true ↔ listed.getD k false = true) := fun k o' ho' hin' => by
          rw [hlist0]
          constructor
          · rintro (h | rfl)
            · exact h
            · rw [ho] at ho'; cases ho'; rw [hin] at hin'; cases hin'
          · exact .inl
        rcases hst with ⟨h1, h2⟩ | ⟨j, h1, h2, h3, h4⟩
        · refine .inl ⟨fun k o' ho' hin' hk => h1 k o' ho' hin' ((hsame k o' ho' hin').1 hk), ⟨h2.old, fun k o' p hk ho' hf => ?_⟩⟩
          rw [h2.new k o' p hk ho' hf]
          simp only [hsame k o' ho' (hS.fresh k o' p ho' hf)]
        · exact .inr ⟨j, h1, h2, fun k o' ho' hin' => (hsame k o' ho' hin').trans (h3 k o' ho' hin'), h4⟩
      | false =>
        rcases hsi hin with ⟨h1, h2, h3⟩ | ⟨h1, h2, h3⟩
        · obtain ⟨p1, p2⟩ := hp h2
          refine .inl ⟨fun k o' ho' hin' hk => ?_, ⟨fun p hnf => (p1 p (hnf i o h2 ho)).trans (h3.old p hnf), fun k o' p hk ho' hf => ?_⟩⟩
          · rcases (hlist0 k).1 hk with h | rfl
            · exact h1 k o' ho' hin' h
            · exact h2
          · by_cases hki : k = i
            · subst hki
              rw [ho] at ho'; cases ho'
              rw [p2 p hf, if_pos ((hlist0 k).2 (.inr rfl))]
            · have hne : freshD cfg.keep o ≠ some p := fun hfo => by
                rcases Nat.lt_or_gt_of_ne hki with h | h
                · exact hD.uniq i k o o' p h ho ho' hfo hf
                · exact hD.uniq k i o' o p h ho' ho hf hfo
              rw [p1 p hne, h3.new k o' p hk ho' hf]
              have : (listed.setIfInBounds i true).getD k false = true ↔ listed.getD k false = true := by
                rw [hlist0]; simp [hki]
              simp only [this]
        · refine .inr ⟨i + 1, by omega, by omega, fun k o' ho' hin' => ?_, ht hin h1⟩
          rw [hlist0, h2 k o' ho' hin']; omega
    have hmono : i < mm → Half cfg.keep ops mm Sg (fun i => listed.getD i false = true) Γ.s → ∀ x ∈ o.op.operands, Mono (Sg i) Γ.s (ev (E i) x) := by
      intro him hh x hx p t xs hh2 hc
      have hle : t ≤ (Γ.s p).t := by
        have hV := hopsV x hx
        rcases hh2 with ⟨off, len, e, hx2⟩ | ⟨off, hx2⟩
        · rw [hx2] at hV; exact hV.1.1
        · rw [hx2] at hV; exact hV.1
      have hi2 := hT.half hD i (by omega) (by omega)
      by_cases hp : ∀ i o, i < mm → ops[i]? = some o → freshD cfg.keep o ≠ some p
      · have e1 := hh.old p hp
        have e2 := hi2.old p hp
        exact e1.trans e2.symm
      · simp only [Classical.not_forall, Classical.not_not] at hp
        obtain ⟨k, o2, hk, ho2, hf⟩ := hp
        have e1 := hh.new k o2 p hk ho2 hf
        have e2 := hi2.new k o2 p hk ho2 hf
        have hdead := hkill k o2 p ho2 hf
        have hno : ∀ (s : St), s p = Sg 0 p → cellsAt s p t = none := fun s hs => by
          unfold cellsAt
          rw [hs]
          rcases h0 : Sg 0 p with ⟨t0, c0⟩
          rw [h0] at hdead
          dsimp only at hdead
          subst hdead; rfl
        by_cases hki : k < i
        · rw [if_pos hki] at e2
          by_cases hlk : listed.getD k false = true
          · rw [if_pos hlk] at e1
            exact e1.trans e2.symm
          · exfalso
            rw [if_neg hlk] at e1
            have hkk := (hT.half hD k (by omega) (by omega)).new k o2 p hk ho2 hf
            simp only [Nat.lt_irrefl, if_false] at hkk
            obtain ⟨o3, q1, _, q3⟩ := hT.step k (Nat.zero_le _) (hsz ho2)
            rw [ho2] at q1; cases q1
            have hnew : Sg (k + 1) p = Sg k p ∨ (Sg (k + 1) p).t = (Sg k p).t + 1 := by
              rcases q3 with ⟨_, q4⟩ | ⟨_, _, q4⟩
              · rw [freshD_dst hf] at q4
                exact (opA_fresh hf q4).2.1
              · exact .inl (by rw [q4])
            rcases hnew with h | h
            · rw [hno (Sg i) (by rw [e2, h, hkk])] at hc; cases hc
            · have ht := cellsAt_t hc
              rw [e2] at ht
              rw [e1] at hle
              rw [hkk] at h
              omega
        · rw [if_neg hki] at e2
          rw [hno (Sg i) e2] at hc; cases hc
    unfold wpOp
    rw [ho]
    dsimp only
    rcases g3 with ⟨w1, w2⟩ | ⟨w1, w2, w3⟩
    · rw [hwant true w1]
      simp only [if_true]
      have hstep : ∃ s1, opA P cfg call true o (o.dst.getD 0) (E i) Γ.s = some (r i, s1) ∧ (I i = true → s1 = Γ.s) ∧ (I i = false → mm ≤ i → s1 = Sg (i + 1)) ∧ (i < mm → (∀ p, freshD cfg.keep o ≠ some p → s1 p = Γ.s p) ∧ ∀ p, freshD cfg.keep o = some p → s1 p = Sg (i + 1) p) := by
        cases hin : I i with
        | true =>
          refine ⟨Γ.s, (hS.same i o ho hin w2).2 Γ.s hPr, fun _ => rfl, (fun h => by cases h), fun _ => ⟨fun _ _ => rfl, fun p hp => ?_⟩⟩
          have := hS.fresh i o p ho hp
          rw [hin] at this; cases this
        | false =>
          rcases hsi hin with ⟨h1, h2, h3⟩ | ⟨h1, h2, h3⟩
          · cases hf : freshD cfg.keep o with
            | none =>
              rcases hD.pre i o h2 ho with h | h
              · obtain ⟨_, q⟩ := opA_calm h (hD.noloud i o h2 ho) hf w2
                exact ⟨Γ.s, q Γ.s (hmono h2 h3), (fun _ => rfl), fun _ h => by omega, fun _ => ⟨fun _ _ => rfl, fun p hp => by cases hp⟩⟩
              · rw [hf] at h; cases h
            | some d =>
              have hdd := freshD_dst hf
              rw [hdd] at w2 ⊢
              obtain ⟨_, _, q⟩ := opA_fresh hf w2
              have e1 := h3.new i o d h2 ho hf
              rw [if_neg hunf] at e1
              have e2 := (hT.half hD i (by omega) (by omega)).new i o d h2 ho hf
              simp only [Nat.lt_irrefl, if_false] at e2
              obtain ⟨s1, q1, q2, q3⟩ := q Γ.s (by rw [e1, e2])
              exact ⟨s1, q1, (fun h => by cases h), fun _ h => by omega, fun _ => ⟨fun p hp => q2 p fun e => hp (by rw [e]), fun p hp => by cases hp; exact q3⟩⟩
          · exact ⟨Sg (i + 1), by rw [h3]; exact w2, (fun h => by cases h), fun _ _ => rfl, fun h => by omega⟩
      obtain ⟨s1, hs1, hs0, hs2, hs3⟩ := hstep
      have hop := opA_ok hcall hI (a := a) hopsV hs1
      exact .inl (hop _ Q fun Γ' v hs' hI' hE' hv => hon Γ' v (by rw [hs']; exact hnext s1 hs0 hs2 hs3) hI' hE' hv)
    · rw [hwant false w1]
      simp only [Bool.false_eq_true, if_false]
      have hnf : freshD cfg.keep o = none := by
        cases hg : o.guard with
        | none => simp [wantA, hg] at w1
        | some g => unfold freshD; rw [hg]
      exact hon Γ undef (hnext Γ.s (fun _ => rfl) (fun hin h => by
        rcases hsi hin with ⟨_, h2, _⟩ | ⟨_, _, h3⟩
        · omega
        · rw [w3, h3]) fun _ => ⟨fun _ _ => rfl, fun p hp => by rw [hnf] at hp; cases hp⟩) hI (.refl _) (by rw [w2]; exact undef_tup)
end
end Go.Ab

/- What an operation leaves as it is: each entry that none of its values is a handle of. No conditions. -/
namespace Go.Ab
section
variable {P : Program} {cfg : Cfg} {call : FuncId → List Arg → Option Out}

theorem noH_own {p q t off len e : Nat} (h : noH p (.own q t off len e) = true) : p ≠ q := by
  simp only [noH, bne_iff_ne, ne_eq] at h; exact fun e => h e.symm
theorem noH_ptr {p q t off : Nat} (h : noH p (.ptr q t off) = true) : p ≠ q := by
  simp only [noH, bne_iff_ne, ne_eq] at h; exact fun e => h e.symm
theorem noH_tok {p q t len : Nat} {xs : List AV} (h : noH p (.sl xs len (.tok q t)) = true) : p ≠ q := by
  simp only [noH, bne_iff_ne, ne_eq] at h; exact fun e => h e.symm
theorem noH_aggo {p q t off len e : Nat} {pre : List AV} (h : noH p (.aggo pre q t off len e) = true) : p ≠ q := by
  simp only [noH, bne_iff_ne, ne_eq] at h; exact fun e => h e.symm
theorem settle_frame {s s' : St} {v v' : AV} {p : Nat} (h : settle s v = some (v', s')) (hn : noH p v = true) : s' p = s p := by
  unfold settle at h
  split at h
  · have hp := noH_own hn
    split at h
    · split at h
      · cases h; exact upd_ne _ _ hp
      · cases h
    · split at h
      · cases h; rfl
      · cases h
    · cases h
  · cases h; rfl
  · cases h
  · cases h
  · cases h
  · have hp := noH_aggo hn
    split at h
    · split at h
      · cases h; exact upd_ne _ _ hp
      · cases h
    · split at h
      · cases h; rfl
      · cases h
    · cases h
  · cases h; rfl
theorem storeA_frame {t : TypeId} {s s' : St} {a v : AV} {p : Nat} (h : storeA P t s a v = some s') (ha : noH p a = true) (hv : noH p v = true) : s' p = s p := by
  unfold storeA at h
  split at h
  · have hp := noH_ptr ha
    simp only [Option.bind_eq_some_iff] at h
    obtain ⟨⟨v1, s1⟩, h1, h⟩ := h
    have e1 := settle_frame h1 hv
    dsimp only at h
    split at h
    · split at h
      · split at h
        · split at h
          · cases h; rw [upd_ne _ _ hp]; exact e1
          · cases h
        · split at h
          · cases h; rw [upd_ne _ _ hp]; exact e1
          · cases h
      · cases h
    · cases h
  · cases h
theorem storeH_frame {t : TypeId} {s s' : St} {a v : AV} {p : Nat} (h : storeH P t s a v = some s') (ha : noH p a = true) : s' p = s p := by
  unfold storeH at h
  split at h
  · have hp := noH_ptr ha
    split at h
    · split at h
      · cases h; exact upd_ne _ _ hp
      · cases h
    · split at h
      · cases h; exact upd_ne _ _ hp
      · cases h
    · cases h
  · have hp := noH_ptr ha
    split at h
    · split at h
      · cases h; exact upd_ne _ _ hp
      · cases h
    · cases h
  · cases h
theorem baseA_frame {e : Nat} {s s' : St} {x : AV} {xs : List AV} {len p : Nat} (h : baseA e s x = some (xs, len, s')) (hx : noH p x = true) : s' p = s p := by
  unfold baseA at h
  split at h
  · split at h
    · cases h; rfl
    · cases h
  · split at h
    · cases h; rfl
    · cases h
  · have hp := noH_tok hx
    split at h
    · split at h
      · cases h; exact upd_ne _ _ hp
      · cases h
    · cases h
  · have hp := noH_own hx
    split at h
    · split at h
      · cases h; exact upd_ne _ _ hp
      · cases h
    · cases h
  · cases h
theorem appendA_frame {us : Array TypeId} {d : Nat} {s s' : St} {x y r : AV} {p : Nat} (h : appendA P us d s x y = some (r, s')) (hd : p ≠ d) (hx : noH p x = true) : s' p = s p := by
  unfold appendA at h
  split at h
  · simp only [Option.bind_eq_some_iff] at h
    obtain ⟨e, he, ⟨ys, n⟩, hm, ⟨xs, len, s1⟩, hb, h⟩ := h
    dsimp only at h hb
    have e1 := baseA_frame hb hx
    split at h
    · cases h; rw [upd_ne _ _ hd]; exact e1
    · cases h
  · cases h
theorem copyA_frame {us : Array TypeId} {s s' : St} {x y r : AV} {p : Nat} (h : copyA P us s x y = some (r, s')) (hx : noH p x = true) : s' p = s p := by
  unfold copyA at h
  split at h
  · have hp := noH_own hx
    simp only [Option.bind_eq_some_iff] at h
    obtain ⟨n, hn, ⟨ys, m⟩, hm, h⟩ := h
    dsimp only at h
    split at h
    · split at h
      · cases h; exact upd_ne _ _ hp
      · cases h
    · cases h
  · cases h
theorem gives_no {p q : Nat} {v : AV} {a : Arg} (h : givesOf v a = some q) (hn : noH p v = true) : p ≠ q := by
  unfold givesOf at h
  split at h
  · cases h; exact noH_ptr hn
  · cases h; exact noH_own hn
  · cases h; exact noH_tok hn
  · cases h
theorem lends_no {p q : Nat} {v : AV} {a : Arg} (h : lendsOf v a = some q) (hn : noH p v = true) : p ≠ q := by
  unfold lendsOf at h
  split at h
  · cases h; exact noH_own hn
  · cases h
theorem lendsL_no {p : Nat} : ∀ (vs : List AV) (as1 : List Arg), (∀ v ∈ vs, noH p v = true) → ∀ q ∈ lendsL vs as1, p ≠ q
  | [], _, _, q, hq => by simp [lendsL] at hq
  | v :: vs, [], _, q, hq => by simp [lendsL] at hq
  | v :: vs, a :: as1, hv, q, hq => by
    have ih := lendsL_no vs as1 (fun u hu => hv u (by simp [hu]))
    simp only [lendsL] at hq
    split at hq
    · rename_i q' he
      rcases List.mem_cons.1 hq with rfl | hq
      · exact lends_no he (hv v (by simp))
      · exact ih q hq
    · exact ih q hq
theorem frzs_frame {p : Nat} : ∀ (l : List Nat) (s : St), (∀ q ∈ l, p ≠ q) → (l.foldl frzAt s) p = s p
  | [], s, _ => rfl
  | q :: l, s, h => by
    simp only [List.foldl_cons]
    rw [frzs_frame l _ fun q' hq' => h q' (by simp [hq'])]
    have hp := h q (by simp)
    unfold frzAt
    cases hs : s q with
    | mk t c =>
      cases c with
      | buf xs => exact upd_ne _ _ hp
      | _ => rfl
theorem backA_frame {p : Nat} : ∀ (vs : List AV) (as1 : List Arg) (os : List (List AV)) (s s' : St), backA s vs as1 os = some s' → (∀ v ∈ vs, noH p v = true) → s' p = s p
  | [], [], [], s, s', h, _ => by simp only [backA, Option.some.injEq] at h; rw [h]
  | [], [], _ :: _, s, s', h, _ => by simp [backA] at h
  | [], _ :: _, _, s, s', h, _ => by simp [backA] at h
  | _ :: _, [], _, s, s', h, _ => by simp [backA] at h
  | _ :: _, _ :: _, [], s, s', h, _ => by simp [backA] at h
  | v :: vs, a :: as1, o :: os, s, s', h, hv => by
    have ih := fun s => backA_frame (p := p) vs as1 os s s'
    simp only [backA] at h
    split at h
    · exact ih s h fun u hu => hv u (by simp [hu])
    · rename_i q he
      have hp := gives_no he (hv v (by simp))
      split at h
      · rw [ih _ h fun u hu => hv u (by simp [hu]), upd_ne _ _ hp]
      · rw [ih _ h fun u hu => hv u (by simp [hu]), upd_ne _ _ hp]
theorem resA_frame {d p : Nat} {s s' : St} {res : Res} {r : AV} (h : resA d s res = some (r, s')) (hd : p ≠ d) : s' p = s p := by
  cases res <;> (simp only [resA, Option.some.injEq, Prod.mk.injEq] at h; obtain ⟨_, rfl⟩ := h; first | rfl | exact upd_ne _ _ hd)
theorem callA_frame {d : Nat} {s s' : St} {f : FuncId} {vs : List AV} {r : AV} {p : Nat} (h : callA cfg call d s f vs = some (r, s')) (hd : p ≠ d) (hv : ∀ v ∈ vs, noH p v = true) : s' p = s p := by
  simp only [callA, Option.bind_eq_some_iff] at h
  obtain ⟨as1, ha, h⟩ := h
  split at h
  · simp only [Option.bind_eq_some_iff] at h
    obtain ⟨⟨res, os⟩, hc, s2, hb, hr⟩ := h
    rw [resA_frame hr hd, backA_frame vs as1 os _ s2 hb hv]
    split
    · rfl
    · exact frzs_frame _ _ (lendsL_no vs as1 hv)
  · cases h
theorem opA_frame {o : Oper} {d : Nat} {env : Env} {s s' : St} {r : AV} {p : Nat} (h : opA P cfg call true o d env s = some (r, s')) (hd : p ≠ d) (hn : ∀ x ∈ o.op.operands, noH p (ev env x) = true) : s' p = s p := by
  by_cases hc : loudA o = false ∧ loudC cfg.keep o = false ∧ freshD cfg.keep o = none
  · rw [(opA_calm hc.1 hc.2.1 hc.2.2 h).1]
  obtain ⟨k, hop⟩ : ∃ k, o.op = k := ⟨_, rfl⟩
  rw [hop] at hn
  have mp : ∀ {α : Type} {x : Option α} {g : α → AV}, x.map (fun v => (g v, s)) = some (r, s') → s' = s := fun h => by
    obtain ⟨_, _, e⟩ := map_some h; cases e; rfl
  unfold opA at h
  simp only [hop] at h
  cases k
  case store t a x =>
    dsimp only at h
    split at h
    · obtain ⟨z, hz, e⟩ := map_some h
      cases e
      exact storeH_frame hz (hn a (by simp [Op.operands]))
    · obtain ⟨z, hz, e⟩ := map_some h
      cases e
      exact storeA_frame hz (hn a (by simp [Op.operands])) (hn x (by simp [Op.operands]))
  case makeSlice t l c =>
    dsimp only at h
    unfold makeA at h
    split at h
    · simp only [Option.bind_eq_some_iff] at h
      obtain ⟨n, _, z, _, h⟩ := h
      split at h
      · cases h; exact upd_ne _ _ hd
      · cases h
    · cases h
  case alloc t =>
    dsimp only at h
    obtain ⟨z, hz, e⟩ := map_some h
    cases e
    exact upd_ne _ _ hd
  case box t x =>
    dsimp only at h
    split at h
    · simp only [Option.bind_eq_some_iff] at h
      obtain ⟨v, hv, h⟩ := h
      obtain ⟨z, hz, e⟩ := map_some h
      cases e; rfl
    · simp only [Option.bind_eq_some_iff] at h
      obtain ⟨⟨v, s1⟩, hv, h⟩ := h
      obtain ⟨z, hz, e⟩ := map_some h
      cases e
      rw [upd_ne _ _ hd]
      exact settle_frame hv (hn x (by simp [Op.operands]))
  case call c =>
    have hops : ∀ x ∈ c.args.toList, noH p (ev env x) = true := fun x hx => hn x (by
      simp only [Op.operands, Call.operands]
      cases c.callee <;> simp [Array.mem_def, hx])
    dsimp only at h
    split at h
    · split at h
      · obtain ⟨_, _, e⟩ := map_some h; cases e; rfl
      · cases h
    · split at h
      · rename_i x y hx
        split at h
        · cases h
        · simp only [Bool.not_true, Bool.false_and, Bool.false_eq_true, if_false] at h
          exact appendA_frame h hd (hops x (by rw [hx]; simp))
      · cases h
    · split at h
      · rename_i x y hx
        exact copyA_frame h (hops x (by rw [hx]; simp))
      · cases h
    · split at h
      · obtain ⟨_, _, e⟩ := map_some h; cases e; rfl
      · cases h
    · split at h
      · obtain ⟨_, _, e⟩ := map_some h; cases e; rfl
      · cases h
    · rename_i f hb
      split at h
      · rename_i fid caps hf
        have hcaps : ∀ v ∈ c.args.toList.map (ev env) ++ caps, noH p v = true := fun v hv => by
          rcases List.mem_append.1 hv with hv | hv
          · obtain ⟨x, hx, rfl⟩ := List.mem_map.1 hv
            exact hops x hx
          · have h1 := hn f (by simp [Op.operands, Call.operands, hb])
            rw [hf] at h1
            simp only [noH, List.isEmpty_iff] at h1
            rw [h1] at hv; cases hv
        simp only [if_true] at h
        split at h
        · exact callA_frame h hd hcaps
        · split at h
          · split at h
            · exact callA_frame h hd hcaps
            · cases h
          · obtain ⟨_, _, e⟩ := map_some h; cases e; rfl
      · cases h
    · cases h
  all_goals exact absurd ⟨by simp only [loudA, hop], by simp only [loudC, hop], by unfold freshD; split <;> first | rfl | (rw [hop])⟩ hc
end
end Go.Ab
