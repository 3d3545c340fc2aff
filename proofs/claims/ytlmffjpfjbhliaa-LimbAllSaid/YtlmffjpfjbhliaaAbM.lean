/- A region that draws its order goes on to what the abstract one tells, in every order. Condition: the program follows the mixed orders. -/
import Derived.Test.YtlmffjpfjbhliaaAbL
namespace Go.Ab
section
variable {P : Program} {cfg : Cfg} {call : FuncId → List Arg → Option Out}

/-- The abstract run, step by step. -/
structure Trace (P : Program) (cfg : Cfg) (call : FuncId → List Arg → Option Out) (q : Bool) (ops : Array Oper) (k n : Nat) (r : Nat → AV) (E : Nat → Env) (Sg : Nat → St) : Prop where
  step : ∀ i, k ≤ i → i < n → ∃ o, ops[i]? = some o ∧ E (i + 1) = setO (E i) o.dst (r i) ∧
    ((wantA ops o (E i) = some true ∧ opA P cfg call q o (o.dst.getD 0) (E i) (Sg i) = some (r i, Sg (i + 1))) ∨ (wantA ops o (E i) = some false ∧ r i = .tup [] ∧ Sg (i + 1) = Sg i))

theorem trace_of {q : Bool} {ops : Array Oper} : ∀ (l : List Oper) (k : Nat) (env : Env) (s : St) (env' : Env) (s' : St), (∀ j, l[j]? = ops[k + j]?) → opsA P cfg call q ops l env s = some (env', s') →
    ∃ r E Sg, E k = env ∧ Sg k = s ∧ E (k + l.length) = env' ∧ Sg (k + l.length) = s' ∧ Trace P cfg call q ops k (k + l.length) r E Sg
  | [], k, env, s, env', s', _, h => by
    simp only [opsA, Option.some.injEq, Prod.mk.injEq] at h
    obtain ⟨rfl, rfl⟩ := h
    exact ⟨fun _ => .undef, fun _ => env, fun _ => s, rfl, rfl, rfl, rfl, ⟨fun i h1 h2 => by simp at h2; omega⟩⟩
  | o :: l, k, env, s, env', s', hl, h => by
    have h0 : ops[k]? = some o := by simpa using (hl 0).symm
    have hl' : ∀ j, l[j]? = ops[k + 1 + j]? := fun j => by have := hl (j + 1); simpa [Nat.add_assoc, Nat.add_comm 1 j] using this
    have key : ∀ (r0 : AV) (s1 : St), opsA P cfg call q ops l (setO env o.dst r0) s1 = some (env', s') →
        ((wantA ops o env = some true ∧ opA P cfg call q o (o.dst.getD 0) env s = some (r0, s1)) ∨ (wantA ops o env = some false ∧ r0 = .tup [] ∧ s1 = s)) →
        ∃ r E Sg, E k = env ∧ Sg k = s ∧ E (k + (o :: l).length) = env' ∧ Sg (k + (o :: l).length) = s' ∧ Trace P cfg call q ops k (k + (o :: l).length) r E Sg := by
      intro r0 s1 hr hcase
      obtain ⟨r, E, Sg, h1, h2, h3, h4, h5⟩ := trace_of l (k + 1) _ _ env' s' hl' hr
      have hlen : k + (o :: l).length = k + 1 + l.length := by simp; omega
      rw [hlen]
      refine ⟨fun i => if i = k then r0 else r i, fun i => if i = k then env else E i, fun i => if i = k then s else Sg i, by simp, by simp, by show (if k + 1 + l.length = k then env else E (k + 1 + l.length)) = env'; rw [if_neg (by omega)]; exact h3, by show (if k + 1 + l.length = k then s else Sg (k + 1 + l.length)) = s'; rw [if_neg (by omega)]; exact h4, ⟨fun i hi1 hi2 => ?_⟩⟩
      by_cases hik : i = k
      · subst hik
        refine ⟨o, h0, ?_, ?_⟩
        · simp only [if_true]; rw [if_neg (by omega), h1]
        · simp only [if_true]
          rw [if_neg (show ¬ (i + 1 = i) by omega), h2]
          exact hcase
      · obtain ⟨o', g1, g2, g3⟩ := h5.step i (by omega) hi2
        refine ⟨o', g1, ?_, ?_⟩
        · simp only [if_neg hik]; rw [if_neg (by omega)]; exact g2
        · simp only [if_neg hik]; rw [if_neg (by omega)]; exact g3
    simp only [opsA] at h
    split at h
    · rename_i hw
      simp only [Option.bind_eq_some_iff] at h
      obtain ⟨⟨r0, s1⟩, hop, h⟩ := h
      exact key r0 s1 h (.inl ⟨hw, hop⟩)
    · rename_i hw
      exact key _ s h (.inr ⟨hw, rfl, rfl⟩)
    · cases h

/-- What a temporary holds behind the operations of D: by the last of them that writes it. -/
def Last (ops : Array Oper) (env : Env) (r : Nat → AV) (D : Nat → Prop) (x : Tmp) (y : AV) : Prop :=
  (∃ i, D i ∧ (ops[i]?).bind (·.dst) = some x ∧ (∀ k, D k → (ops[k]?).bind (·.dst) = some x → k ≤ i) ∧ y = r i) ∨ ((∀ k, D k → (ops[k]?).bind (·.dst) ≠ some x) ∧ y = env x)

theorem Last.congr {ops : Array Oper} {env : Env} {r : Nat → AV} {D D' : Nat → Prop} {x : Tmp} {y : AV} (h : Last ops env r D x y) (hd : ∀ k, (ops[k]?).bind (·.dst) = some x → (D k ↔ D' k)) : Last ops env r D' x y := by
  rcases h with ⟨i, h1, h2, h3, h4⟩ | ⟨h1, h2⟩
  · exact .inl ⟨i, (hd i h2).1 h1, h2, fun k hk hx => h3 k ((hd k hx).2 hk) hx, h4⟩
  · exact .inr ⟨fun k hk hx => h1 k ((hd k hx).2 hk) hx, h2⟩

theorem Trace.last {q : Bool} {ops : Array Oper} {n : Nat} {r : Nat → AV} {E : Nat → Env} {Sg : Nat → St} (h : Trace P cfg call q ops 0 n r E Sg) (x : Tmp) : ∀ i, i ≤ n → Last ops (E 0) r (fun k => k < i) x (E i x)
  | 0, _ => .inr ⟨fun _ h => by omega, rfl⟩
  | i + 1, hi => by
    obtain ⟨o, h1, h2, _⟩ := h.step i (Nat.zero_le _) (by omega)
    rw [h2]
    by_cases hx : o.dst = some x
    · rw [hx]
      refine .inl ⟨i, by omega, by rw [h1]; exact hx, fun k hk _ => by omega, by simp [setO]⟩
    · have he : setO (E i) o.dst (r i) x = E i x := by
        cases hd : o.dst with
        | none => rfl
        | some d => exact upd_ne _ _ (fun e => hx (by rw [hd, e]))
      rw [he]
      refine (Trace.last h x i (by omega)).congr fun k hk => ?_
      constructor
      · intro h; omega
      · intro h
        have : k ≠ i := fun e => by subst e; rw [h1] at hk; exact hx hk
        omega

/-! ### What stands before what -/
theorem waits_in {ops : Array Oper} {D : Nat → Prop} (hD : ∀ i o, D i → ops[i]? = some o → ∀ e ∈ o.after, Region.binds .any e = true → D e.on) :
    ∀ (f i k : Nat) (o : Oper), ops[i]? = some o → (∀ e ∈ o.after, Region.binds .any e = true → D e.on) → waitsFor ops f i k = true → D k
  | 0, _, _, _, _, _, h => by simp [waitsFor] at h
  | f + 1, i, k, o, ho, hr, h => by
    simp only [waitsFor, ho, Bool.or_eq_true, List.any_eq_true, Bool.and_eq_true, beq_iff_eq] at h
    rcases h with ⟨e, he, hb, rfl⟩ | ⟨e, he, hb, hw⟩
    · exact hr e (Array.mem_def.2 he) hb
    · have hDe := hr e (Array.mem_def.2 he) hb
      cases hoe : ops[e.on]? with
      | none =>
        cases f with
        | zero => simp [waitsFor] at hw
        | succ f => simp [waitsFor, hoe] at hw
      | some oe => exact waits_in hD f e.on k oe hoe (hD e.on oe hDe hoe) hw

structure DrawOk (ops : Array Oper) (m : Nat) : Prop where
  back : ∀ i o, ops[i]? = some o → ∀ e ∈ o.after, Region.binds .any e = true → e.on < i
  ord : ∀ i k o p, k < i → ops[i]? = some o → ops[k]? = some p → touches ops p o = true → waitsFor ops ops.size i k = true
  tail : ∀ i k, k < i → i < ops.size → m ≤ i → waitsFor ops ops.size i k = true
  calm : ∀ i o, i < m → ops[i]? = some o → loudA o = false
theorem drawOk_iff {ops : Array Oper} (h : drawOk ops = true) : DrawOk ops (ops.toList.findIdx loudA) := by
  unfold drawOk at h
  simp only [List.all_eq_true, List.mem_range] at h
  have hi : ∀ {i o}, ops[i]? = some o → i < ops.size := fun {i o} ho => by
    rcases Nat.lt_or_ge i ops.size with h | h
    · exact h
    · rw [Array.getElem?_eq_none h] at ho; cases ho
  have main : ∀ i o, ops[i]? = some o → (∀ e ∈ o.after, Region.binds .any e = true → e.on < i) ∧ ∀ k p, k < i → ops[k]? = some p → (touches ops p o = true ∨ ops.toList.findIdx loudA ≤ i) → waitsFor ops ops.size i k = true := by
    intro i o ho
    have h1 := h i (hi ho)
    rw [ho] at h1
    simp only [Bool.and_eq_true, List.all_eq_true, List.mem_range, Bool.or_eq_true, Bool.not_eq_true', decide_eq_true_eq] at h1
    refine ⟨fun e he hb => ?_, fun k p hk hp hc => ?_⟩
    · rcases h1.1 e (Array.mem_def.1 he) with h | h
      · rw [hb] at h; cases h
      · exact h
    · have h2 := h1.2 k hk
      rw [hp] at h2
      simp only [Bool.or_eq_true, Bool.not_eq_true', Bool.or_eq_false_iff, decide_eq_false_iff_not] at h2
      rcases h2 with ⟨h3, h4⟩ | h2
      · rcases hc with hc | hc
        · rw [hc] at h3; cases h3
        · exact absurd hc h4
      · exact h2
  refine ⟨fun i o ho => (main i o ho).1, fun i k o p hk ho hp ht => (main i o ho).2 k p hk hp (.inl ht), fun i k hk hi' hm => ?_, fun i o hi' ho => ?_⟩
  · exact (main i ops[i] (Array.getElem?_eq_getElem hi')).2 k ops[k] hk (Array.getElem?_eq_getElem (by omega)) (.inr hm)
  · have := List.not_of_lt_findIdx hi'
    have e : ops.toList[i]? = some o := by simpa using ho
    rw [List.getElem?_eq_some_iff] at e
    obtain ⟨h1, h2⟩ := e
    rw [← h2]; simpa using this

theorem touches_names {ops : Array Oper} {x y : Oper} {d : Tmp} (hx : x.dst = some d) (hy : d ∈ namesOf ops y) : touches ops x y = true ∧ touches ops y x = true := by
  simp [touches, hx, hy]

/-! ### Counting what is left -/
def left (n : Nat) (listed : Array Bool) : Nat := (List.range n).countP fun i => !listed.getD i true
theorem left_set {listed : Array Bool} {i : Nat} : ∀ {n : Nat}, i < n → listed.getD i true = false → left n (listed.setIfInBounds i true) + 1 = left n listed
  | 0, h, _ => by omega
  | n + 1, h, hf => by
    have hsz : i < listed.size := by
      rcases Nat.lt_or_ge i listed.size with h | h
      · exact h
      · simp [h] at hf
    unfold left
    rw [List.range_succ, List.countP_append, List.countP_append]
    by_cases hin : i = n
    · subst hin
      have h1 : (List.range i).countP (fun j => !(listed.setIfInBounds i true).getD j true) = (List.range i).countP fun j => !listed.getD j true := by
        apply List.countP_congr
        intro j hj
        rw [getD_set_ne true (by have := List.mem_range.1 hj; omega)]
      rw [h1]
      have h2 : (listed.setIfInBounds i true).getD i true = true := by simp [hsz]
      have h3 : listed[i]?.getD true = false := by rw [← Array.getD_eq_getD_getElem?]; exact hf
      simp [h3]
    · have ih := left_set (listed := listed) (n := n) (by omega) hf
      unfold left at ih
      have h2 : (listed.setIfInBounds i true).getD n true = listed.getD n true := getD_set_ne true hin
      simp only [List.countP_singleton, h2]
      omega
theorem left_zero {listed : Array Bool} {n i : Nat} (h : left n listed = 0) (hi : i < n) : listed.getD i true = true := by
  have := List.countP_eq_zero.1 h i (List.mem_range.2 hi)
  simpa using this

/-- What is not loud leaves the store alone. -/
theorem opA_calm {o : Oper} {d : Nat} {env : Env} {s s' : St} {r : AV} (hl : loudA o = false) (h : opA P cfg call true o d env s = some (r, s')) : s' = s := by
  have mp : ∀ {x : Option AV}, x.map (·, s) = some (r, s') → s' = s := fun h => by
    obtain ⟨_, _, e⟩ := map_some h; cases e; rfl
  unfold opA at h
  unfold loudA at hl
  dsimp only at h
  split at h
  case h_9 hop => rw [hop] at hl; cases hl
  case h_18 hop => rw [hop] at hl; cases hl
  case h_19 hop => rw [hop] at hl; cases hl
  case h_20 hop => rw [hop] at hl; cases hl
  case h_22 c hop =>
    rw [hop] at hl
    dsimp only at hl
    split at h
    case h_2 hb => rw [hb] at hl; cases hl
    case h_3 hb => rw [hb] at hl; cases hl
    all_goals
      (repeat' split at h) <;> first | exact mp h | (rename_i hne; exact absurd rfl hne) | (cases h; done)
  all_goals
    first
    | exact mp h
    | (cases h; rfl)
    | ((repeat' split at h) <;> first | exact mp h | (cases h; first | rfl | done))
    | (simp only [Option.bind_eq_some_iff] at h
       obtain ⟨z, _, h⟩ := h
       (repeat' split at h) <;> first | exact mp h | (cases h; first | rfl | done) | (simp only [Option.bind_eq_some_iff] at h; obtain ⟨_, _, h⟩ := h; first | exact mp h))
    | ((repeat' split at h) <;> first | exact mp h | (cases h; done) | (simp only [Option.bind_eq_some_iff] at h; obtain ⟨_, _, _, _, h⟩ := h; (repeat' split at h) <;> first | exact mp h | (cases h; done)))

/-- The temporaries behind the operations of D. -/
structure PartOk (Γ : G) (ops : Array Oper) (env : Env) (r : Nat → AV) (D : Nat → Prop) (a : Act) (m : Nat) : Prop where
  defers : a.defers = []
  size : a.tmps.size = m
  val : ∀ t y, Last ops env r D t y → V Γ y (a.tmps.getD t undef)

theorem listed_lt {listed : Array Bool} {i n : Nat} (hn : listed.size = n) (h : listed.getD i false = true) : i < n := by
  rcases Nat.lt_or_ge i listed.size with h' | h'
  · omega
  · simp [h'] at h
theorem getD_swap {listed : Array Bool} {i : Nat} (hi : i < listed.size) (b c : Bool) : listed.getD i b = listed.getD i c := by simp [hi]

/-- Any order of what draws its order. -/
theorem draw_ok (hcall : FnOk P call) {ops : Array Oper} {mm : Nat} {Q : Exit → Act → World → Prop} (hD : DrawOk ops mm) {m : Nat} (hd : ∀ o ∈ ops.toList, ∀ d, o.dst = some d → d < m)
    {r : Nat → AV} {E : Nat → Env} {Sg : Nat → St} (hT : Trace P cfg call true ops 0 ops.size r E Sg) {Γ0 : G}
    (hQ : ∀ Γ' a', Γ'.s = Sg ops.size → Inv Γ' → Ext Γ0 Γ' → EnvOk Γ' (E ops.size) a' m → Q .normal a' Γ'.w) :
    ∀ (fuel : Nat) (listed : Array Bool) (Γ : G) (a : Act), listed.size = ops.size → left ops.size listed ≤ fuel → Inv Γ → Ext Γ0 Γ →
      (∀ i o, listed.getD i false = true → ops[i]? = some o → ∀ e ∈ o.after, Region.binds .any e = true → listed.getD e.on false = true) →
      PartOk Γ ops (E 0) r (fun i => listed.getD i false = true) a m →
      (((∀ i, listed.getD i false = true → i < mm) ∧ Γ.s = Sg 0) ∨ ∃ i, mm ≤ i ∧ i ≤ ops.size ∧ (∀ k, listed.getD k false = true ↔ k < i) ∧ Γ.s = Sg i) →
      wpAny P .any ops Q fuel listed a Γ.w := by
  have hsz : ∀ {i o}, ops[i]? = some o → i < ops.size := fun {i o} ho => by
    rcases Nat.lt_or_ge i ops.size with h | h
    · exact h
    · rw [Array.getElem?_eq_none h] at ho; cases ho
  have hcalmS : ∀ i, i ≤ mm → i ≤ ops.size → Sg i = Sg 0 := by
    intro i
    induction i with
    | zero => intro _ _; rfl
    | succ i ih =>
      intro h1 h2
      obtain ⟨o, g1, _, g3⟩ := hT.step i (Nat.zero_le _) (by omega)
      rcases g3 with ⟨_, g4⟩ | ⟨_, _, g4⟩
      · rw [opA_calm (hD.calm i o (by omega) g1) g4]; exact ih (by omega) (by omega)
      · rw [g4]; exact ih (by omega) (by omega)
  have hall : ∀ (listed : Array Bool), listed.size = ops.size → Region.ready .any ops listed = [] → ∀ i, i < ops.size → listed.getD i false = true := by
    intro listed hls hr i
    induction i using Nat.strongRecOn with
    | _ i ih =>
      intro hi
      by_cases hli : listed.getD i false = true
      · exact hli
      · exfalso
        have hmem : i ∈ Region.ready .any ops listed := mem_ready.2 ⟨by rw [getD_swap (by omega) true false]; simpa using hli, ops[i], Array.getElem?_eq_getElem hi, fun e he hb => by
          have := hD.back i ops[i] (Array.getElem?_eq_getElem hi) e he hb
          exact ih e.on this (by omega)⟩
        rw [hr] at hmem; cases hmem
  have hdone : ∀ (listed : Array Bool) (Γ : G) (a : Act), listed.size = ops.size → (∀ i, i < ops.size → listed.getD i false = true) → Inv Γ → Ext Γ0 Γ → PartOk Γ ops (E 0) r (fun i => listed.getD i false = true) a m →
      (((∀ i, listed.getD i false = true → i < mm) ∧ Γ.s = Sg 0) ∨ ∃ i, mm ≤ i ∧ i ≤ ops.size ∧ (∀ k, listed.getD k false = true ↔ k < i) ∧ Γ.s = Sg i) → Q .normal a Γ.w := by
    intro listed Γ a hls hfull hI hE hp hst
    refine hQ Γ a ?_ hI hE ⟨hp.defers, hp.size, fun t => hp.val t _ ?_⟩
    · rcases hst with ⟨h1, h2⟩ | ⟨i, h1, h2, h3, h4⟩
      · rw [h2]
        refine (hcalmS ops.size ?_ (Nat.le_refl _)).symm
        rcases Nat.eq_zero_or_pos ops.size with h0 | h0
        · omega
        · have := h1 (ops.size - 1) (hfull _ (by omega)); omega
      · have : i = ops.size := by
          rcases Nat.lt_or_ge i ops.size with h | h
          · have := (h3 i).1 (hfull i h); omega
          · omega
        rw [h4, this]
    · refine (hT.last t ops.size (Nat.le_refl _)).congr fun k hk => ?_
      have hklt : k < ops.size := by
        cases hok : ops[k]? with
        | none => rw [hok] at hk; cases hk
        | some o => exact hsz hok
      exact ⟨fun _ => hfull k hklt, fun _ => hklt⟩
  intro fuel
  induction fuel with
  | zero =>
    intro listed Γ a hls hleft hI hE hcl hp hst
    have hfull : ∀ i, i < ops.size → listed.getD i false = true := fun i hi => by
      rw [getD_swap (by omega) false true]; exact left_zero (by omega) hi
    refine ⟨?_, hdone listed Γ a hls hfull hI hE hp hst⟩
    cases hr : Region.ready .any ops listed with
    | nil => rfl
    | cons i l =>
      exfalso
      have hmem : i ∈ Region.ready .any ops listed := by rw [hr]; exact List.mem_cons_self ..
      obtain ⟨h1, o, ho, _⟩ := mem_ready.1 hmem
      have := hfull i (hsz ho)
      rw [getD_swap (by have := hsz ho; omega) false true, h1] at this
      cases this
  | succ fuel ih =>
    intro listed Γ a hls hleft hI hE hcl hp hst
    refine ⟨fun hr => hdone listed Γ a hls (hall listed hls hr) hI hE hp hst, fun i hi => ?_⟩
    obtain ⟨hun, o, ho, hafter⟩ := mem_ready.1 hi
    have hilt := hsz ho
    have hunf : ¬ listed.getD i false = true := by rw [getD_swap (by omega) false true, hun]; simp
    have hwait : ∀ k, waitsFor ops ops.size i k = true → listed.getD k false = true := fun k hk => waits_in (D := fun k => listed.getD k false = true) hcl ops.size i k o ho hafter hk
    -- a writer of what is named here stands before, or behind
    have hord : ∀ k p, ops[k]? = some p → (∀ d, p.dst = some d → d ∈ namesOf ops o → (listed.getD k false = true ↔ k < i)) := by
      intro k p hk d hd' hdn
      obtain ⟨t1, t2⟩ := touches_names hd' hdn
      constructor
      · intro hlk
        rcases Nat.lt_trichotomy k i with h | h | h
        · exact h
        · subst h; exact absurd hlk hunf
        · exfalso
          have hw := hD.ord k i p o h hk ho t2
          have := waits_in (D := fun k => listed.getD k false = true) hcl ops.size k i p hk (hcl k p hlk hk) hw
          exact hunf this
      · intro h
        exact hwait k (hD.ord i k o p h ho hk t1)
    have hread : ∀ t, t ∈ namesOf ops o → V Γ (E i t) (a.tmps.getD t undef) := fun t ht => by
      refine hp.val t _ ((hT.last t i (by omega)).congr fun k hk => ?_)
      cases hok : ops[k]? with
      | none => rw [hok] at hk; cases hk
      | some p =>
        rw [hok] at hk
        exact (hord k p hok t hk ht).symm
    obtain ⟨o', g1, g2, g3⟩ := hT.step i (Nat.zero_le _) hilt
    rw [ho] at g1; cases g1
    have hsi : Γ.s = Sg i ∧ ((∀ k, listed.getD k false = true → k < mm) ∧ i < mm ∨ mm ≤ i ∧ ∀ k, listed.getD k false = true ↔ k < i) := by
      rcases hst with ⟨h1, h2⟩ | ⟨j, h1, h2, h3, h4⟩
      · by_cases him : i < mm
        · exact ⟨by rw [h2, hcalmS i (by omega) (by omega)], .inl ⟨h1, him⟩⟩
        · -- all before stand there: it is the first loud one
          have hb : ∀ k, k < i → listed.getD k false = true := fun k hk => hwait k (hD.tail i k hk hilt (by omega))
          have him' : i = mm := by
            rcases Nat.lt_or_ge mm i with h | h
            · have := h1 mm (hb mm h); omega
            · omega
          exact ⟨by rw [h2, hcalmS i (by omega) (by omega)], .inr ⟨by omega, fun k => ⟨fun hk => by have := h1 k hk; omega, hb k⟩⟩⟩
      · have hij : i = j := by
          rcases Nat.lt_trichotomy i j with h | h | h
          · exact absurd ((h3 i).2 h) hunf
          · exact h
          · have := (h3 j).1 (hwait j (hD.tail i j h hilt (by omega))); omega
        subst hij
        exact ⟨h4, .inr ⟨h1, h3⟩⟩
    have hd1 : ∀ x, o.dst = some x → x < m := hd o (by
      have e : ops.toList[i]? = some o := by simpa using ho
      exact List.mem_of_getElem? e)
    have hwant : ∀ b, wantA ops o (E i) = some b → Region.wanted o (yielded ops a.tmps) = b := fun b hb => wantA_ok hb fun j w d hg hdj => hread d (by
      simp only [namesOf, readsOf, hg, hdj, List.mem_append]
      exact .inr (.inr (by simp)))
    have hi' : listed.size = (listed.setIfInBounds i true).size := by simp
    -- on, with one more listed
    have hon : ∀ (Γ' : G) (v : Value), Γ'.s = Sg (i + 1) → Inv Γ' → Ext Γ Γ' → V Γ' (r i) v → wpAny P .any ops Q fuel (listed.setIfInBounds i true) (a.put o.dst v) Γ'.w := by
      intro Γ' v hs' hI' hE' hv
      have hlist : ∀ k, (listed.setIfInBounds i true).getD k false = true ↔ (listed.getD k false = true ∨ k = i) := fun k => by
        by_cases hk : k = i
        · subst hk
          have hks : k < listed.size := by omega
          simp [hks]
        · rw [getD_set_ne false (Ne.symm hk)]; simp [hk]
      refine ih _ Γ' _ (by omega) (by have := left_set (listed := listed) (n := ops.size) (i := i) hilt hun; omega) hI' (hE.trans hE') (fun j p hj hp' e he hb => ?_) ⟨(put_tmps a o.dst v).1.trans hp.defers, (put_tmps a o.dst v).2.trans hp.size, fun t y hy => ?_⟩ ?_
      · rw [hlist] at hj ⊢
        rcases hj with hj | rfl
        · exact .inl (hcl j p hj hp' e he hb)
        · rw [ho] at hp'; cases hp'; exact .inl (hafter e he hb)
      · by_cases htd : o.dst = some t
        · -- what it wrote
          have hget : (a.put o.dst v).tmps.getD t undef = v := by
            rw [htd, put_get a t v t (by rw [hp.size]; exact hd1 t htd)]; simp
          rw [hget]
          have hnm : t ∈ namesOf ops o := by simp [namesOf, htd]
          rcases hy with ⟨k, h1, h2, h3, h4⟩ | ⟨h1, _⟩
          · have hki : k = i := by
              have h5 := h3 i ((hlist i).2 (.inr rfl)) (by rw [ho]; exact htd)
              rcases (hlist k).1 h1 with h6 | h6
              · cases hok : ops[k]? with
                | none => rw [hok] at h2; cases h2
                | some p =>
                  rw [hok] at h2
                  have := (hord k p hok t h2 hnm).1 h6
                  omega
              · exact h6
            rw [h4, hki]; exact hv
          · exact absurd (by rw [ho]; exact htd) (h1 i ((hlist i).2 (.inr rfl)))
        · have hget : (a.put o.dst v).tmps.getD t undef = a.tmps.getD t undef := by
            cases hdd : o.dst with
            | none => rfl
            | some d =>
              rw [put_get a d v t (by rw [hp.size]; exact hd1 d hdd), if_neg (fun e => htd (by rw [hdd, e]))]
          rw [hget]
          refine V.ext hE' (hp.val t y (hy.congr fun k hk => ?_))
          rw [hlist]
          constructor
          · rintro (h | rfl)
            · exact h
            · rw [ho] at hk; exact absurd hk htd
          · exact .inl
      · rcases hsi.2 with ⟨h1, h2⟩ | ⟨h1, h2⟩
        · refine .inl ⟨fun k hk => ?_, by rw [hs', hcalmS (i + 1) (by omega) (by omega)]⟩
          rcases (hlist k).1 hk with h | rfl
          · exact h1 k h
          · exact h2
        · refine .inr ⟨i + 1, by omega, by omega, fun k => ?_, hs'⟩
          rw [hlist, h2 k]; omega
    unfold wpOp
    rw [ho]
    dsimp only
    rcases g3 with ⟨w1, w2⟩ | ⟨w1, w2, w3⟩
    · rw [hwant true w1]
      simp only [if_true]
      rw [← hsi.1] at w2
      have hop := opA_ok hcall hI (a := a) (fun x hx => by
        cases x with
        | tmp t => exact hread t (by
            simp only [namesOf, readsOf, tmpsOf, List.mem_append, List.mem_filterMap]
            exact .inr (.inl ⟨.tmp t, Array.mem_def.1 hx, rfl⟩))
        | const v => exact V_ofV v
        | global g => exact V_cell (x := .undef) (by simp only [V0])
        | func f => exact V_cell ⟨[], rfl, VT.nil⟩) w2
      exact .inl (hop _ Q fun Γ' v hs' hI' hE' hv => hon Γ' v hs' hI' hE' hv)
    · rw [hwant false w1]
      simp only [Bool.false_eq_true, if_false]
      exact hon Γ undef (by rw [w3]; exact hsi.1) hI (.refl _) (by rw [w2]; exact undef_tup)
end
end Go.Ab
