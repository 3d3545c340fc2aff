/- Code, and whole functions: where the abstract run of a call answers, the call answers that. Condition: the program follows the mixed orders. -/
import Derived.Test.YtaifnpbgamookaaDoorAbM
import Derived.LoopN
import Derived.Scope
namespace Go.Ab
section
variable {P : Program} {cfg : Cfg} {call : FuncId → List Arg → Option Out}

def exOf : Ex → Exit
  | .normal => .normal
  | .exit id => .exit id
  | .ret => .ret

theorem killF_ok (keep : FuncId → Bool) : ∀ (l : List Oper) (Γ : G), Inv Γ → Inv { Γ with s := killF keep l Γ.s } ∧ Ext Γ { Γ with s := killF keep l Γ.s }
  | [], Γ, h => ⟨h, .refl _⟩
  | o :: l, Γ, h => by
    simp only [killF]
    cases freshD keep o with
    | none => exact killF_ok keep l Γ h
    | some d =>
      obtain ⟨h1, h2⟩ := h.kill (p := d) (t := (Γ.s d).t) (Nat.le_refl _)
      obtain ⟨h3, h4⟩ := killF_ok keep l _ h1
      exact ⟨h3, h2.trans h4⟩
theorem killF_keeps (keep : FuncId → Bool) : ∀ (l : List Oper) (s : St) (p : Nat), (s p).c = .dead → (killF keep l s p).c = .dead
  | [], s, p, h => h
  | o :: l, s, p, h => by
    simp only [killF]
    refine killF_keeps keep l _ p ?_
    cases freshD keep o with
    | some d =>
      by_cases hp : p = d
      · subst hp; simp [killD, upd]
      · simp only [killD]; rw [upd_ne _ _ hp]; exact h
    | none => exact h
theorem killF_dead (keep : FuncId → Bool) : ∀ (l : List Oper) (s : St) (o : Oper) (p : Nat), o ∈ l → freshD keep o = some p → (killF keep l s p).c = .dead
  | [], s, o, p, h, _ => by cases h
  | o' :: l, s, o, p, h, hf => by
    simp only [killF]
    rcases List.mem_cons.1 h with rfl | h
    · rw [hf]
      exact killF_keeps keep l _ p (by simp [killD, upd])
    · exact killF_dead keep l _ o p h hf
theorem region_ok (hcall : FnOk P call) (hm : P.follows .mixedOrders = true) {id : Nat} {ops : Array Oper} {draw : Bool} {m : Nat} (hd : dstOk cfg.keep m (.region id ops draw) = true) {env env' : Env} {s' : St} {Γ : G} {a : Act} {Q : Exit → Act → World → Prop}
    (h : opsA P cfg call draw ops ops.toList env (killI cfg.keep draw ops.toList Γ.s) = some (env', s')) (hI : Inv Γ) (he : EnvOk Γ env a m)
    (hQ : ∀ Γ' a', Γ'.s = s' → Inv Γ' → Ext Γ Γ' → EnvOk Γ' env' a' m → Q .normal a' Γ'.w) : (Code.region id ops draw).wp P Q a Γ.w := by
  simp only [dstOk, Bool.and_eq_true, Bool.or_eq_true, Bool.not_eq_true'] at hd
  have hd1 : ∀ o ∈ ops.toList, ∀ d, o.dst = some d → d < m := fun o ho d hdd => by
    have := List.all_eq_true.1 hd.1 o ho
    rw [hdd] at this
    simpa using this
  cases draw with
  | false => exact wp_region_list (opsA_ok hcall ops.toList env Γ a env' s' hd1 h hI he hQ)
  | true =>
    have hdr : drawOk cfg.keep ops = true := by
      rcases hd.2 with h | h
      · cases h
      · exact h
    obtain ⟨r, E, Sg, h1, h2, h3, h4, hT⟩ := trace_of ops.toList 0 env (killF cfg.keep ops.toList Γ.s) env' s' (by simp) h
    simp only [Nat.zero_add, Array.length_toList] at h3 h4 hT
    obtain ⟨hIk, hEk⟩ := killF_ok cfg.keep ops.toList Γ hI
    obtain ⟨hI2, hE2'⟩ := hIk.drew
    have hE2 := hEk.trans hE2'
    refine wp_region_any hm ?_
    refine draw_ok hcall (drawOk_iff hdr) hd1 hT (fun i o p ho hf => by rw [h2]; exact killF_dead cfg.keep ops.toList Γ.s o p (List.mem_of_getElem? (i := i) (by simpa using ho)) hf) (Γ0 := { Γ with s := killF cfg.keep ops.toList Γ.s, w := Γ.w.drew }) (fun Γ' a' g1 g2 g3 g4 => hQ Γ' a' (by rw [g1, h4]) g2 (hE2.trans g3) (by rw [← h3]; exact g4)) ops.size (Array.replicate ops.size false) { Γ with s := killF cfg.keep ops.toList Γ.s, w := Γ.w.drew } a (by simp) ?_ hI2 (.refl _) ?_ ⟨he.defers, he.size, fun t y hy => ?_⟩ (.inl ⟨fun i o _ _ hi => ?_, ⟨fun p _ => by rw [h2], fun i o p _ _ _ => by rw [if_neg (by intro hi; by_cases hio : i < ops.size <;> simp [hio] at hi), h2]⟩⟩)
    · unfold left
      exact Nat.le_trans List.countP_le_length (by simp)
    · intro i o hi
      by_cases hio : i < ops.size <;> simp [hio] at hi
    · rcases hy with ⟨i, hi, _⟩ | ⟨_, hy⟩
      · by_cases hio : i < ops.size <;> simp [hio] at hi
      · rw [hy, h1]; exact V.ext hE2 (he.val t)
    · by_cases hio : i < ops.size <;> simp [hio] at hi

theorem den_ok (hcall : FnOk P call) (hm : P.follows .mixedOrders = true) {n m : Nat} {out : Out} : ∀ (c : Code) (K : Kont) (env : Env) (Γ : G) (a : Act) (Q : Exit → Act → World → Prop), dstOk cfg.keep m c = true → den P cfg call n c K env Γ.s = some out → Inv Γ → EnvOk Γ env a m →
    (∀ ex env' Γ' a', K ex env' Γ'.s = some out → Inv Γ' → Ext Γ Γ' → EnvOk Γ' env' a' m → Q (exOf ex) a' Γ'.w) → c.wp P Q a Γ.w := by
  intro c
  induction c with
  | skip => intro K env Γ a Q _ h hI he hQ; exact wp_skip (hQ .normal env Γ a h hI (.refl _) he)
  | label l => intro K env Γ a Q _ h hI he hQ; exact wp_label (hQ .normal env Γ a h hI (.refl _) he)
  | exit id => intro K env Γ a Q _ h hI he hQ; exact wp_exit (hQ (.exit id) env Γ a h hI (.refl _) he)
  | ret => intro K env Γ a Q _ h hI he hQ; exact wp_ret (hQ .ret env Γ a h hI (.refl _) he)
  | region id ops draw =>
    intro K env Γ a Q hd h hI he hQ
    simp only [den, Option.bind_eq_some_iff] at h
    obtain ⟨⟨env', s'⟩, h1, h2⟩ := h
    refine region_ok hcall hm hd h1 hI he fun Γ' a' g1 g2 g3 g4 => hQ .normal env' Γ' a' ?_ g2 g3 g4
    rw [g1]; exact h2
  | seq x y ihx ihy =>
    intro K env Γ a Q hd h hI he hQ
    simp only [dstOk, Bool.and_eq_true] at hd
    simp only [den] at h
    refine wp_seq (ihx _ env Γ a _ hd.1 h hI he fun ex env' Γ' a' g1 g2 g3 g4 => ?_)
    cases ex with
    | normal => exact ihy K env' Γ' a' Q hd.2 g1 g2 g4 fun ex2 env2 Γ2 a2 k1 k2 k3 k4 => hQ ex2 env2 Γ2 a2 k1 k2 (g3.trans k3) k4
    | exit id => exact hQ (.exit id) env' Γ' a' g1 g2 g3 g4
    | ret => exact hQ .ret env' Γ' a' g1 g2 g3 g4
  | cond c x y ihx ihy =>
    intro K env Γ a Q hd h hI he hQ
    simp only [dstOk, Bool.and_eq_true] at hd
    simp only [den] at h
    have hV := V_ev he.val c
    split at h
    · rename_i hc
      rw [hc, V_bool] at hV
      exact wp_cond_true hV (ihx K env Γ a Q hd.1 h hI he hQ)
    · rename_i hc
      rw [hc, V_bool] at hV
      exact wp_cond_false hV (ihy K env Γ a Q hd.2 h hI he hQ)
    · cases h
  | block id x ih =>
    intro K env Γ a Q hd h hI he hQ
    simp only [dstOk] at hd
    simp only [den] at h
    refine wp_block (ih _ env Γ a _ hd h hI he fun ex env' Γ' a' g1 g2 g3 g4 => ?_)
    cases ex with
    | normal => exact hQ .normal env' Γ' a' g1 g2 g3 g4
    | exit i =>
      simp only [exOf, Exit.inBlock]
      dsimp only at g1
      split at g1
      · rename_i hi; rw [if_pos hi]; exact hQ .normal env' Γ' a' g1 g2 g3 g4
      · rename_i hi; rw [if_neg hi]; exact hQ (.exit i) env' Γ' a' g1 g2 g3 g4
    | ret => exact hQ .ret env' Γ' a' g1 g2 g3 g4
  | loop x ih =>
    intro K env Γ a Q hd h hI he hQ
    simp only [dstOk] at hd
    simp only [den] at h
    refine wp_loop_rounds n ?_
    have key : ∀ (k : Nat) (env : Env) (Γ1 : G) (a : Act), loopA (den P cfg call n x) K k env Γ1.s = some out → Inv Γ1 → Ext Γ Γ1 → EnvOk Γ1 env a m → Code.rounds P x Q k a Γ1.w := by
      intro k
      induction k with
      | zero => intro env Γ1 a h _ _ _; simp [loopA] at h
      | succ k ihk =>
        intro env Γ1 a h hI1 hE1 he1
        simp only [loopA] at h
        rw [rounds_succ]
        refine ih _ env Γ1 a _ hd h hI1 he1 fun ex env' Γ' a' g1 g2 g3 g4 => ?_
        cases ex with
        | normal => exact ihk env' Γ' a' g1 g2 (hE1.trans g3) g4
        | exit id => exact hQ (.exit id) env' Γ' a' g1 g2 (hE1.trans g3) g4
        | ret => exact hQ .ret env' Γ' a' g1 g2 (hE1.trans g3) g4
    exact key n env Γ a h hI (.refl _) he
  | scope x ih =>
    intro K env Γ a Q hd h hI he hQ
    simp only [dstOk] at hd
    simp only [den] at h
    refine wp_scope_straight (ih K env Γ a _ hd h hI he fun ex env' Γ' a' g1 g2 g3 g4 => ?_)
    cases ex with
    | normal => exact hQ .normal env' Γ' a' g1 g2 g3 g4
    | exit id => exact hQ (.exit id) env' Γ' a' g1 g2 g3 g4
    | ret => exact hQ .ret env' Γ' a' g1 g2 g3 g4
  | rangeFunc f ps x y _ _ => intro K env Γ a Q _ h; simp [den] at h
  | goto l => intro K env Γ a Q _ h; simp [den] at h
  | refuse w => intro K env Γ a Q _ h; simp [den] at h

theorem outsA_iff {s : St} : ∀ (as : List Arg) (k : Nat) (os : List (List AV)), outsA s k as = some os → ∀ (j : Nat) (a : Arg), as[j]? = some a → a.mut = true → ∃ xs, os[j]? = some xs ∧ s (k + j) = ⟨0, .buf xs⟩
  | [], _, _, _, j, a, h, _ => by simp at h
  | b :: as, k, os, h, j, a, ha, hm => by
    simp only [outsA, Option.bind_eq_some_iff] at h
    obtain ⟨o, ho, h⟩ := h
    obtain ⟨os', hos, rfl⟩ := map_some h
    cases j with
    | zero =>
      simp at ha; subst ha
      refine ⟨o, rfl, ?_⟩
      cases b <;> simp [Arg.mut] at hm <;> dsimp only at ho
      all_goals
        split at ho
        · rename_i xs hx; cases ho; exact hx
        · cases ho
    | succ j =>
      obtain ⟨xs, h1, h2⟩ := outsA_iff as (k + 1) os' hos j a (by simpa using ha) hm
      exact ⟨xs, by simpa using h1, by rw [show k + (j + 1) = k + 1 + j by omega]; exact h2⟩

theorem settleL_ok : ∀ (vs : List AV) (us : List Value) (vs' : List AV) (s' : St) (Γ : G), Inv Γ → settleL Γ.s vs = some (vs', s') → VA Γ vs us → ∃ Γ', Quiet Γ s' Γ' ∧ VT Γ'.S Γ'.w vs' us
  | [], us, vs', s', Γ, hI, h, hv => by
    cases hv
    simp only [settleL, Option.some.injEq, Prod.mk.injEq] at h
    obtain ⟨rfl, rfl⟩ := h
    exact ⟨Γ, ⟨rfl, rfl, hI, .refl _⟩, VT.nil⟩
  | v :: vs, us, vs', s', Γ, hI, h, hv => by
    cases hv with
    | cons h0 hr =>
      simp only [settleL, Option.bind_eq_some_iff] at h
      obtain ⟨⟨v', s1⟩, h1, h⟩ := h
      obtain ⟨⟨vs'', s2⟩, h2, e⟩ := map_some h
      cases e
      obtain ⟨Γ1, ⟨w1, rfl, I1, E1⟩, g1⟩ := settle_ok hI h1 h0
      have hr' : ∀ {xs us}, VA Γ xs us → VA Γ1 xs us := fun h => by
        induction h with
        | nil => exact .nil
        | cons h _ ih => exact .cons (V.ext E1 h) ih
      obtain ⟨Γ2, ⟨w2, e2, I2, E2⟩, g2⟩ := settleL_ok vs _ vs'' s2 Γ1 I1 h2 (hr' hr)
      refine ⟨Γ2, ⟨w2.trans w1, e2, I2, E1.trans E2⟩, ?_⟩
      simp only [VT]
      exact ⟨_, _, rfl, V0.mono E2.stays _ _ g1, g2⟩

/-- The result, settled. -/
theorem finish1_ok {Γ : G} (hI : Inv Γ) {keep : Bool} {as : List Arg} {x : AV} {r : Res} {s1 : St} (h : finish1 keep as.length Γ.s x = some (r, s1)) {v : Value} (hv : V Γ x v) :
    ∃ Γ', Quiet Γ s1 Γ' ∧ ResOk Γ' as.length v r := by
  have set : ∀ {y : AV}, V Γ y v → (settle Γ.s y).map (fun (v, s) => (Res.tree v, s)) = some (r, s1) → ∃ Γ', Quiet Γ s1 Γ' ∧ ResOk Γ' as.length v r := fun {y} hy hs => by
    obtain ⟨⟨y', s2⟩, h1, h2⟩ := map_some hs
    cases h2
    obtain ⟨Γ', hq, h0⟩ := settle_ok hI h1 hy
    exact ⟨Γ', hq, h0⟩
  unfold finish1 at h
  split at h
  · rename_i p t
    split at h
    · rename_i t' xs hp
      split at h
      · rename_i hc
        cases h
        obtain ⟨rfl, hnp⟩ := hc
        exact ⟨Γ, ⟨rfl, rfl, hI, .refl _⟩, p, _, hnp, hp, hv⟩
      · cases h
    · cases h
  · rename_i p t len e
    split at h
    · split at h
      · rename_i t' xs hp
        split at h
        · rename_i hc
          cases h
          obtain ⟨rfl, hnp, _⟩ := hc
          exact ⟨Γ, ⟨rfl, rfl, hI, .refl _⟩, p, _, hnp, hp, hv⟩
        · cases h
      · cases h
    · exact set hv h
  · rename_i xs len p t
    split at h
    · split at h
      · rename_i t' e hp
        split at h
        · rename_i hc
          subst hc
          cases h
          exact ⟨Γ, ⟨rfl, rfl, hI, .refl _⟩, p, _, hp, hv⟩
        · cases h
      · cases h
    · cases h
      exact ⟨Γ, ⟨rfl, rfl, hI, .refl _⟩, hv.1⟩
  · exact set hv h

/-- A result's value. -/
def rvS (tmps : Array Value) : ResultVar → Sem Value
  | .tmp t => pure (tmps.getD t undef)
  | .cell a t => do loadVar t (← asAddr (tmps.getD a undef))
theorem rv_ok {Γ : G} (hI : Inv Γ) {r : ResultVar} {env : Env} {tmps : Array Value} {y : AV} (h : rvA P Γ.s env r = some y) (hv : ∀ t, V Γ (env t) (tmps.getD t undef)) : ∃ u, (rvS tmps r).run P Γ.w = .ok u Γ.w ∧ V Γ y u := by
  cases r with
  | tmp t =>
    cases h
    exact ⟨_, rfl, hv t⟩
  | cell a t =>
    have ha := hv a
    simp only [rvA] at h
    unfold loadA at h
    split at h
    · rename_i xs he
      rw [he] at ha
      obtain ⟨b, o, hvv, hc⟩ := (V_tree rfl).1 ha
      obtain ⟨v, h1, h2⟩ := loadVar_ok (b := b) (o := o) h (.ofVC hc)
      exact ⟨v, by simpa [rvS, hvv, asAddr] using h1, h2⟩
    · rename_i p i off he
      rw [he] at ha
      simp only [Option.bind_eq_some_iff] at h
      obtain ⟨xs, hx, h⟩ := h
      obtain ⟨_, hk⟩ := ha
      have hvv := hk xs hx
      obtain ⟨v, h1, h2⟩ := loadVar_ok h (hI.read hx)
      exact ⟨v, by simpa [rvS, hvv, asAddr] using h1, h2⟩
    · cases h
theorem results_one {fn : Func} {r : ResultVar} (h : fn.results = #[r]) (tmps : Array Value) {u : Value} {w : World} (hr : (rvS tmps r).run P w = .ok u w) : (results fn tmps).run P w = .ok u w := by
  have e : (results fn tmps) = rvS tmps r := by
    cases r <;> simp [results, h, rvS]
  rw [e, hr]
theorem run_results {fn : Func} {tmps : Array Value} {w : World} {f : ResultVar → Option AV} {Γ : G} (hf : ∀ r y, f r = some y → ∃ u, (rvS tmps r).run P w = .ok u w ∧ V Γ y u) : ∀ {vs : List AV}, fn.results.toList.mapM f = some vs → fn.results.size ≠ 1 →
    ∃ us : List Value, (results fn tmps).run P w = .ok (.tuple us.toArray) w ∧ VA Γ vs us := by
  intro vs h hne
  have key : ∀ (l : List ResultVar) (vs : List AV), l.mapM f = some vs →
      ∃ us : List Value, (l.mapM (fun | .tmp t => pure (tmps.getD t undef) | .cell a t => do loadVar t (← asAddr (tmps.getD a undef)) : ResultVar → Sem Value)).run P w = .ok us w ∧ VA Γ vs us := by
    intro l
    induction l with
    | nil => intro vs h; simp at h; subst h; exact ⟨[], rfl, .nil⟩
    | cons x l ih =>
      intro vs h
      rw [List.mapM_cons] at h
      simp only [Option.bind_eq_bind, Option.bind_eq_some_iff] at h
      obtain ⟨y, hy, ys, hys, h⟩ := h
      cases h
      obtain ⟨us, h1, h2⟩ := ih ys hys
      obtain ⟨u, h3, h4⟩ := hf x y hy
      refine ⟨u :: us, ?_, .cons h4 h2⟩
      rw [List.mapM_cons]
      have h3' : ((fun | .tmp t => pure (tmps.getD t undef) | .cell a t => do loadVar t (← asAddr (tmps.getD a undef)) : ResultVar → Sem Value) x).run P w = .ok u w := by
        cases x <;> exact h3
      simp only [Sem.run_bind, Sem.run_pure, h3', Result.andThen_ok, h1]
  obtain ⟨us, h1, h2⟩ := key _ vs h
  refine ⟨us, ?_, h2⟩
  have hlen : us.length = fn.results.size := by
    have h3 := (VA_iff.1 h2).1
    have h4 : vs.length = fn.results.toList.length := by
      have : ∀ (l : List ResultVar) (vs : List AV), l.mapM f = some vs → vs.length = l.length := by
        intro l
        induction l with
        | nil => intro vs h; simp at h; subst h; rfl
        | cons x l ih =>
          intro vs h
          rw [List.mapM_cons] at h
          simp only [Option.bind_eq_bind, Option.bind_eq_some_iff] at h
          obtain ⟨y, hy, ys, hys, h⟩ := h
          cases h
          simp [ih ys hys]
      exact this _ _ h
    rw [← h3, h4]; simp
  unfold results
  rw [Sem.run_bind, Array.mapM_eq_mapM_toList]
  simp only [Sem.run_map]
  erw [h1]
  simp only [Result.andThen_ok]
  have hne2 : ¬ (us.toArray.size = 1) := by simp; omega
  simp only [hne2, dif_neg, not_false_eq_true]
  rfl

theorem evalFn_ok (hm : P.follows .mixedOrders = true) (hp : FnOk P cfg.prim) (n : Nat) : ∀ d, FnOk P (evalFn P cfg n d)
  | 0 => fun f as r os h => by simp [evalFn] at h
  | d + 1 => fun f as r os h => by
    have ih := evalFn_ok hm hp n d
    simp only [evalFn] at h
    split at h
    · rename_i o ho
      cases h
      exact hp f as r os ho
    split at h
    · cases h
    · rename_i fn hf
      split at h
      · cases h
      · rename_i c hb
        split at h
        · rename_i hc
          obtain ⟨hn1, hn2, hn3⟩ := hc
          refine ⟨⟨fn, c, hf, hn1, hb⟩, fun Γ vs hI hA => ?_⟩
          refine calls_of_wp hf hb ?_
          have hlen := hA.len
          have he : EnvOk Γ (env0 as) { tmps := vs.toArray ++ Array.replicate (fn.ntmps - vs.toArray.size) undef, defers := [] } fn.ntmps := by
            refine ⟨rfl, by simp only [Array.size_append, List.size_toArray, Array.size_replicate]; omega, fun t => ?_⟩
            rw [Array.getD_eq_getD_getElem?]
            by_cases ht : t < vs.length
            · rw [Array.getElem?_append_left (by simpa using ht)]
              have : vs.toArray[t]? = some vs[t] := by simp [ht]
              rw [this]
              exact hA.val t vs[t] (List.getElem?_eq_getElem ht)
            · have h1 : (vs.toArray ++ Array.replicate (fn.ntmps - vs.toArray.size) undef)[t]?.getD undef = undef := by
                rw [Array.getElem?_append_right (by have := Nat.le_of_not_lt ht; simpa using this)]
                simp only [Array.getElem?_replicate]
                split <;> rfl
              rw [h1]
              have h3 : as.length ≤ t := by rw [hlen]; exact Nat.le_of_not_lt ht
              have h2 : env0 as t = .tup [] := by simp [env0, h3]
              rw [h2]; exact undef_tup
          rw [← hA.s] at h
          have fin0 : ∀ env' Γ' a', finish (cfg.keep f) as fn.results env' Γ'.s = some (r, os) → Inv Γ' → Ext Γ Γ' → EnvOk Γ' env' a' fn.ntmps →
              ∃ v, (results fn a'.tmps).run P Γ'.w = .ok v Γ'.w ∧ ∃ u Γ2, Ending.returned v = .returned u ∧ Γ2.w = Γ'.w ∧ Inv Γ2 ∧ Ext Γ Γ2 ∧ FinOk Γ2 as r os u := by
            intro env' Γ' a' hfin hI' hE' he'
            unfold finish at hfin
            split at hfin
            · rename_i t hr
              simp only [Option.bind_eq_some_iff] at hfin
              obtain ⟨⟨r1, s1⟩, h1, h2⟩ := hfin
              obtain ⟨os1, h3, e⟩ := map_some h2
              cases e
              obtain ⟨Γ2, ⟨w2, e2, I2, E2⟩, hres⟩ := finish1_ok hI' h1 (he'.val t)
              have hrs : fn.results = #[.tmp t] := by apply Array.ext'; simpa using hr
              refine ⟨_, results_tmp hrs a'.tmps P Γ'.w, _, Γ2, rfl, w2, I2, hE'.trans E2, ⟨fun j a ha hmut => ?_, hres⟩⟩
              have := outsA_iff as 0 os h3 j a ha hmut
              simpa [e2] using this
            · rename_i hnr
              simp only [Option.bind_eq_some_iff] at hfin
              obtain ⟨vs1, h1, ⟨vs2, s1⟩, h2, h3⟩ := hfin
              obtain ⟨os1, h4, e⟩ := map_some h3
              cases e
              have hne : fn.results.size ≠ 1 := fun h1s => by
                have : ∃ x, fn.results.toList = [x] := by
                  cases hl : fn.results.toList with
                  | nil => rw [← Array.length_toList, hl] at h1s; simp at h1s
                  | cons x l => cases l with
                    | nil => exact ⟨x, rfl⟩
                    | cons y l => rw [← Array.length_toList, hl] at h1s; simp at h1s
                obtain ⟨x, hx⟩ := this
                cases x with
                | tmp t => exact hnr t hx
                | cell a t => rw [hx] at h1; simp at h1
              obtain ⟨us, hrun, hva⟩ := run_results (P := P) (tmps := a'.tmps) (w := Γ'.w) (Γ := Γ') (fun r y hy => by
                cases r with
                | tmp t => cases hy; exact ⟨_, rfl, he'.val t⟩
                | cell a t => cases hy) h1 hne
              obtain ⟨Γ2, ⟨w2, e2, I2, E2⟩, hvt⟩ := settleL_ok vs1 us vs2 s1 Γ' hI' h2 hva
              refine ⟨_, hrun, _, Γ2, rfl, w2, I2, hE'.trans E2, ⟨fun j a ha hmut => ?_, ⟨us, rfl, hvt⟩⟩⟩
              have := outsA_iff as 0 os h4 j a ha hmut
              simpa [e2] using this
          have fin : ∀ env' Γ' a', finishP P (cfg.keep f) as fn.results env' Γ'.s = some (r, os) → Inv Γ' → Ext Γ Γ' → EnvOk Γ' env' a' fn.ntmps →
              ∃ v, (results fn a'.tmps).run P Γ'.w = .ok v Γ'.w ∧ ∃ u Γ2, Ending.returned v = .returned u ∧ Γ2.w = Γ'.w ∧ Inv Γ2 ∧ Ext Γ Γ2 ∧ FinOk Γ2 as r os u := by
            intro env' Γ' a' hfin hI' hE' he'
            unfold finishP at hfin
            split at hfin
            · exact fin0 env' Γ' a' hfin hI' hE' he'
            · split at hfin
              · rename_i a t hr
                simp only [Option.bind_eq_some_iff] at hfin
                obtain ⟨y, h1, ⟨y', s1⟩, h2, h3⟩ := hfin
                obtain ⟨os1, h4, e⟩ := map_some h3
                cases e
                obtain ⟨u, hu, hyu⟩ := rv_ok (r := .cell a t) hI' h1 he'.val
                obtain ⟨Γ2, ⟨w2, e2, I2, E2⟩, h0⟩ := settle_ok hI' h2 hyu
                have hrs : fn.results = #[.cell a t] := by apply Array.ext'; simpa using hr
                refine ⟨_, results_one hrs a'.tmps hu, _, Γ2, rfl, w2, I2, hE'.trans E2, ⟨fun j a ha hmut => ?_, h0⟩⟩
                have := outsA_iff as 0 os h4 j a ha hmut
                simpa [e2] using this
              · rename_i hnr
                simp only [Option.bind_eq_some_iff] at hfin
                obtain ⟨vs1, h1, ⟨vs2, s1⟩, h2, h3⟩ := hfin
                obtain ⟨os1, h4, e⟩ := map_some h3
                cases e
                have hne : fn.results.size ≠ 1 := fun h1s => by
                  have : ∃ x, fn.results.toList = [x] := by
                    cases hl : fn.results.toList with
                    | nil => rw [← Array.length_toList, hl] at h1s; simp at h1s
                    | cons x l => cases l with
                      | nil => exact ⟨x, rfl⟩
                      | cons y l => rw [← Array.length_toList, hl] at h1s; simp at h1s
                  obtain ⟨x, hx⟩ := this
                  cases x with
                  | cell a t => exact hnr a t hx
                  | tmp t =>
                    rename_i hall _
                    rw [hx] at hall; simp [isTmpR] at hall
                obtain ⟨us, hrun, hva⟩ := run_results (P := P) (tmps := a'.tmps) (w := Γ'.w) (Γ := Γ') (fun r y hy => rv_ok hI' hy he'.val) h1 hne
                obtain ⟨Γ2, ⟨w2, e2, I2, E2⟩, hvt⟩ := settleL_ok vs1 us vs2 s1 Γ' hI' h2 hva
                refine ⟨_, hrun, _, Γ2, rfl, w2, I2, hE'.trans E2, ⟨fun j a ha hmut => ?_, ⟨us, rfl, hvt⟩⟩⟩
                have := outsA_iff as 0 os h4 j a ha hmut
                simpa [e2] using this
          refine den_ok ih hm c _ _ Γ _ _ hn3 h hI he fun ex env' Γ' a' g1 g2 g3 g4 => ?_
          cases ex with
          | exit id => cases g1
          | normal =>
            obtain ⟨v, k1, u, Γ2, k2, k3, k4, k5, k6⟩ := fin env' Γ' a' g1 g2 g3 g4
            exact ⟨g4.defers, v, k1, u, Γ2, k2, k3, k4, k5, k6⟩
          | ret =>
            obtain ⟨v, k1, u, Γ2, k2, k3, k4, k5, k6⟩ := fin env' Γ' a' g1 g2 g3 g4
            exact ⟨g4.defers, v, k1, u, Γ2, k2, k3, k4, k5, k6⟩
        · cases h
end
end Go.Ab
