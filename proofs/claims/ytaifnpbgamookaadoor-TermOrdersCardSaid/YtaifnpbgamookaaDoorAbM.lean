/- A region that draws its order goes on to what the abstract one tells, in every order. Condition: the program follows the mixed orders. -/
import Derived.Test.YtaifnpbgamookaaDoorAbL
namespace Go.Ab
section
variable {P : Program} {cfg : Cfg} {call : FuncId → List Arg → Option Out}

/-- The abstract run, step by step. -/
structure Trace (P : Program) (cfg : Cfg) (call : FuncId → List Arg → Option Out) (q : Bool) (ops : Array Oper) (k n : Nat) (r : Nat → AV) (E : Nat → Env) (Sg : Nat → St) : Prop where
  step : ∀ i, k ≤ i → i < n → ∃ o, ops[i]? = some o ∧ E (i + 1) = setO (E i) o.dst (r i) ∧
    ((wantA ops o (E i) = some true ∧ opA P cfg call q o (o.dst.getD 0) (E i) (Sg i) = some (r i, Sg (i + 1))) ∨ (wantA ops o (E i) = some false ∧ r i = .tup [] ∧ Sg (i + 1) = Sg i))

theorem trace_of {q : Bool} {ops : Array Oper} : ∀ (l : List Oper) (k : Nat) (env : Env) (s : St) (env' : Env) (s' : St), (∀ j, l[j]? = ops[k + j]?) → opsA P cfg call q ops l env s = some (env', s') →
    ∃ r E Sg, E k = env ∧ Sg k = s ∧ E (k + l.length) = env' ∧ Sg (k + l.length) = s' ∧ Trace P cfg call q ops k (k + l.length) r E Sg
  | [], k, env, s, env', s', _, h => by
    simp only [opsA, Option.some.injEq, Prod.mk.injEq] at h
    obtain ⟨rfl, rfl⟩ := h
    exact ⟨fun _ => .undef, fun _ => env, fun _ => s, rfl, rfl, rfl, rfl, ⟨fun i h1 h2 => by simp at h2; omega⟩⟩
  | o :: l, k, env, s, env', s', hl, h => by
    have h0 : ops[k]? = some o := by simpa using (hl 0).symm
    have hl' : ∀ j, l[j]? = ops[k + 1 + j]? := fun j => by have := hl (j + 1); simpa [Nat.add_assoc, Nat.add_comm 1 j] using this
    have key : ∀ (r0 : AV) (s1 : St), opsA P cfg call q ops l (setO env o.dst r0) s1 = some (env', s') →
        ((wantA ops o env = some true ∧ opA P cfg call q o (o.dst.getD 0) env s = some (r0, s1)) ∨ (wantA ops o env = some false ∧ r0 = .tup [] ∧ s1 = s)) →
        ∃ r E Sg, E k = env ∧ Sg k = s ∧ E (k + (o :: l).length) = env' ∧ Sg (k + (o :: l).length) = s' ∧ Trace P cfg call q ops k (k + (o :: l).length) r E Sg := by
      intro r0 s1 hr hcase
      obtain ⟨r, E, Sg, h1, h2, h3, h4, h5⟩ := trace_of l (k + 1) _ _ env' s' hl' hr
      have hlen : k + (o :: l).length = k + 1 + l.length := by simp; omega
      rw [hlen]
      refine ⟨fun i => if i = k then r0 else r i, fun i => if i = k then env else E i, fun i => if i = k then s else Sg i, by simp, by simp, by show (if k + 1 + l.length = k then env else E (k + 1 + l.length)) = env'; rw [if_neg (by omega)]; exact h3, by show (if k + 1 + l.length = k then s else Sg (k + 1 + l.length)) = s'; rw [if_neg (by omega)]; exact h4, ⟨fun i hi1 hi2 => ?_⟩⟩
      by_cases hik : i = k
      · subst hik
        refine ⟨o, h0, ?_, ?_⟩
        · simp only [if_true]; rw [if_neg (by omega), h1]
        · simp only [if_true]
          rw [if_neg (show ¬ (i + 1 = i) by omega), h2]
          exact hcase
      · obtain ⟨o', g1, g2, g3⟩ := h5.step i (by omega) hi2
        refine ⟨o', g1, ?_, ?_⟩
        · simp only [if_neg hik]; rw [if_neg (by omega)]; exact g2
        · simp only [if_neg hik]; rw [if_neg (by omega)]; exact g3
    simp only [opsA] at h
    split at h
    · rename_i hw
      simp only [Option.bind_eq_some_iff] at h
      obtain ⟨⟨r0, s1⟩, hop, h⟩ := h
      exact key r0 s1 h (.inl ⟨hw, hop⟩)
    · rename_i hw
      exact key _ s h (.inr ⟨hw, rfl, rfl⟩)
    · cases h

/-- What a temporary holds behind the operations of D: by the last of them that writes it. -/
def Last (ops : Array Oper) (env : Env) (r : Nat → AV) (D : Nat → Prop) (x : Tmp) (y : AV) : Prop :=
  (∃ i, D i ∧ (ops[i]?).bind (·.dst) = some x ∧ (∀ k, D k → (ops[k]?).bind (·.dst) = some x → k ≤ i) ∧ y = r i) ∨ ((∀ k, D k → (ops[k]?).bind (·.dst) ≠ some x) ∧ y = env x)

theorem Last.congr {ops : Array Oper} {env : Env} {r : Nat → AV} {D D' : Nat → Prop} {x : Tmp} {y : AV} (h : Last ops env r D x y) (hd : ∀ k, (ops[k]?).bind (·.dst) = some x → (D k ↔ D' k)) : Last ops env r D' x y := by
  rcases h with ⟨i, h1, h2, h3, h4⟩ | ⟨h1, h2⟩
  · exact .inl ⟨i, (hd i h2).1 h1, h2, fun k hk hx => h3 k ((hd k hx).2 hk) hx, h4⟩
  · exact .inr ⟨fun k hk hx => h1 k ((hd k hx).2 hk) hx, h2⟩

theorem Trace.last {q : Bool} {ops : Array Oper} {n : Nat} {r : Nat → AV} {E : Nat → Env} {Sg : Nat → St} (h : Trace P cfg call q ops 0 n r E Sg) (x : Tmp) : ∀ i, i ≤ n → Last ops (E 0) r (fun k => k < i) x (E i x)
  | 0, _ => .inr ⟨fun _ h => by omega, rfl⟩
  | i + 1, hi => by
    obtain ⟨o, h1, h2, _⟩ := h.step i (Nat.zero_le _) (by omega)
    rw [h2]
    by_cases hx : o.dst = some x
    · rw [hx]
      refine .inl ⟨i, by omega, by rw [h1]; exact hx, fun k hk _ => by omega, by simp [setO]⟩
    · have he : setO (E i) o.dst (r i) x = E i x := by
        cases hd : o.dst with
        | none => rfl
        | some d => exact upd_ne _ _ (fun e => hx (by rw [hd, e]))
      rw [he]
      refine (Trace.last h x i (by omega)).congr fun k hk => ?_
      constructor
      · intro h; omega
      · intro h
        have : k ≠ i := fun e => by subst e; rw [h1] at hk; exact hx hk
        omega

/-! ### What stands before what -/
theorem waits_in {ops : Array Oper} {D : Nat → Prop} (hD : ∀ i o, D i → ops[i]? = some o → ∀ e ∈ o.after, Region.binds .any e = true → D e.on) :
    ∀ (f i k : Nat) (o : Oper), ops[i]? = some o → (∀ e ∈ o.after, Region.binds .any e = true → D e.on) → waitsFor ops f i k = true → D k
  | 0, _, _, _, _, _, h => by simp [waitsFor] at h
  | f + 1, i, k, o, ho, hr, h => by
    simp only [waitsFor, ho, Bool.or_eq_true, List.any_eq_true, Bool.and_eq_true, beq_iff_eq] at h
    rcases h with ⟨e, he, hb, rfl⟩ | ⟨e, he, hb, hw⟩
    · exact hr e (Array.mem_def.2 he) hb
    · have hDe := hr e (Array.mem_def.2 he) hb
      cases hoe : ops[e.on]? with
      | none =>
        cases f with
        | zero => simp [waitsFor] at hw
        | succ f => simp [waitsFor, hoe] at hw
      | some oe => exact waits_in hD f e.on k oe hoe (hD e.on oe hDe hoe) hw

structure DrawOk (keep : FuncId → Bool) (ops : Array Oper) (m : Nat) : Prop where
  back : ∀ i o, ops[i]? = some o → ∀ e ∈ o.after, Region.binds .any e = true → e.on < i
  ord : ∀ i k o p, k < i → ops[i]? = some o → ops[k]? = some p → touches ops p o = true → waitsFor ops ops.size i k = true
  tail : ∀ (i k : Nat) (o p : Oper), k < i → ops[i]? = some o → ops[k]? = some p → m ≤ i → inertA o = false → inertA p = false → waitsFor ops ops.size i k = true
  pre : ∀ i o, i < m → ops[i]? = some o → loudA o = false ∨ (freshD keep o).isSome = true
  uniq : ∀ (i k : Nat) (o p : Oper) (d : Nat), k < i → ops[i]? = some o → ops[k]? = some p → freshD keep o = some d → freshD keep p = some d → False
theorem drawOk_iff {keep : FuncId → Bool} {ops : Array Oper} (h : drawOk keep ops = true) : DrawOk keep ops (ops.toList.findIdx (loudB keep)) := by
  unfold drawOk at h
  simp only [List.all_eq_true, List.mem_range] at h
  have hi : ∀ {i o}, ops[i]? = some o → i < ops.size := fun {i o} ho => by
    rcases Nat.lt_or_ge i ops.size with h | h
    · exact h
    · rw [Array.getElem?_eq_none h] at ho; cases ho
  have main : ∀ i o, ops[i]? = some o → (∀ e ∈ o.after, Region.binds .any e = true → e.on < i) ∧ ∀ k p, k < i → ops[k]? = some p → ((touches ops p o = true ∨ (ops.toList.findIdx (loudB keep) ≤ i ∧ inertA o = false ∧ inertA p = false)) → waitsFor ops ops.size i k = true) ∧ sameD keep p o = false := by
    intro i o ho
    have h1 := h i (hi ho)
    rw [ho] at h1
    simp only [Bool.and_eq_true, List.all_eq_true, List.mem_range, Bool.or_eq_true, Bool.not_eq_true', decide_eq_true_eq] at h1
    refine ⟨fun e he hb => ?_, fun k p hk hp => ?_⟩
    · rcases h1.1 e (Array.mem_def.1 he) with h | h
      · rw [hb] at h; cases h
      · exact h
    · have h2 := h1.2 k hk
      rw [hp] at h2
      rw [Bool.and_eq_true] at h2
      refine ⟨fun hc => ?_, by simpa using h2.2⟩
      replace h2 := h2.1
      rw [Bool.or_eq_true, Bool.not_eq_true', Bool.or_eq_false_iff] at h2
      rcases h2 with ⟨h3, h4⟩ | h2
      · rcases hc with hc | ⟨hc, hc1, hc2⟩
        · rw [hc] at h3; cases h3
        · rw [decide_eq_true hc, hc1, hc2] at h4; cases h4
      · exact h2
  refine ⟨fun i o ho => (main i o ho).1, fun i k o p hk ho hp ht => ((main i o ho).2 k p hk hp).1 (.inl ht), fun i k o p hk ho hp hm h1 h2 => ((main i o ho).2 k p hk hp).1 (.inr ⟨hm, h1, h2⟩), fun i o hi' ho => ?_, fun i k o p d hk ho hp h1 h2 => ?_⟩
  · have := List.not_of_lt_findIdx hi'
    have e : ops.toList[i]? = some o := by simpa using ho
    rw [List.getElem?_eq_some_iff] at e
    obtain ⟨h1, h2⟩ := e
    rw [h2] at this
    cases hl : loudA o with
    | false => exact .inl rfl
    | true =>
      rw [loudB, hl, Bool.true_and] at this
      cases hf : freshD keep o with
      | none => rw [hf] at this; cases this
      | some d => exact .inr rfl
  · have := ((main i o ho).2 k p hk hp).2
    simp [sameD, h1, h2] at this

theorem touches_names {ops : Array Oper} {x y : Oper} {d : Tmp} (hx : x.dst = some d) (hy : d ∈ namesOf ops y) : touches ops x y = true ∧ touches ops y x = true := by
  simp [touches, hx, hy]

/-! ### Counting what is left -/
def left (n : Nat) (listed : Array Bool) : Nat := (List.range n).countP fun i => !listed.getD i true
theorem left_set {listed : Array Bool} {i : Nat} : ∀ {n : Nat}, i < n → listed.getD i true = false → left n (listed.setIfInBounds i true) + 1 = left n listed
  | 0, h, _ => by omega
  | n + 1, h, hf => by
    have hsz : i < listed.size := by
      rcases Nat.lt_or_ge i listed.size with h | h
      · exact h
      · simp [h] at hf
    unfold left
    rw [List.range_succ, List.countP_append, List.countP_append]
    by_cases hin : i = n
    · subst hin
      have h1 : (List.range i).countP (fun j => !(listed.setIfInBounds i true).getD j true) = (List.range i).countP fun j => !listed.getD j true := by
        apply List.countP_congr
        intro j hj
        rw [getD_set_ne true (by have := List.mem_range.1 hj; omega)]
      rw [h1]
      have h2 : (listed.setIfInBounds i true).getD i true = true := by simp [hsz]
      have h3 : listed[i]?.getD true = false := by rw [← Array.getD_eq_getD_getElem?]; exact hf
      simp [h3]
    · have ih := left_set (listed := listed) (n := n) (by omega) hf
      unfold left at ih
      have h2 : (listed.setIfInBounds i true).getD n true = listed.getD n true := getD_set_ne true hin
      simp only [List.countP_singleton, h2]
      omega
theorem left_zero {listed : Array Bool} {n i : Nat} (h : left n listed = 0) (hi : i < n) : listed.getD i true = true := by
  have := List.countP_eq_zero.1 h i (List.mem_range.2 hi)
  simpa using this

/-! ### Calls upon trees -/
theorem argsA_trees (f : FuncId) (s : St) : ∀ (vs : List AV) (j : Nat), vs.all isTree = true → argsA cfg f s j vs = some (vs.map Arg.tree)
  | [], _, _ => rfl
  | v :: vs, j, h => by
    simp only [List.all_cons, Bool.and_eq_true] at h
    have e : argA cfg f s j v = some (.tree v) := by
      obtain ⟨h, _⟩ := h
      cases v <;> first | rfl | (simp [isTree] at h; done) | (rename_i g; cases g <;> first | rfl | (simp [isTree] at h; done))
    simp only [argsA, e, Option.bind_some, argsA_trees f s vs (j + 1) h.2, Option.map_some, List.map_cons]
theorem gives_tree {v : AV} (a : AV) : givesOf v (.tree a) = none := by cases v <;> first | rfl | (rename_i g; cases g <;> rfl)
theorem lends_tree {v a : AV} (h : isTree v = true) : lendsOf v (.tree a) = none := by cases v <;> first | rfl | simp [isTree] at h
theorem givesL_trees : ∀ vs : List AV, givesL vs (vs.map Arg.tree) = []
  | [] => rfl
  | v :: vs => by simp only [List.map_cons, givesL, gives_tree, givesL_trees vs]
theorem lendsL_trees : ∀ vs : List AV, vs.all isTree = true → lendsL vs (vs.map Arg.tree) = []
  | [], _ => rfl
  | v :: vs, h => by
    simp only [List.all_cons, Bool.and_eq_true] at h
    simp only [List.map_cons, lendsL, lends_tree h.1, lendsL_trees vs h.2]
theorem backA_treesS : ∀ (vs : List AV) (os : List (List AV)) (s s2 : St), backA s vs (vs.map Arg.tree) os = some s2 → s2 = s ∧ ∀ s', backA s' vs (vs.map Arg.tree) os = some s'
  | [], os, s, s2, h => by
    cases os with
    | nil => simp [backA] at h; exact ⟨h.symm, fun s' => rfl⟩
    | cons o os => simp [backA] at h
  | v :: vs, os, s, s2, h => by
    cases os with
    | nil => simp [backA] at h
    | cons o os =>
      simp only [List.map_cons, backA, gives_tree] at h ⊢
      exact backA_treesS vs os s s2 h
theorem callA_treesS {d : Nat} {s s1 : St} {f : FuncId} {vs : List AV} {r : AV} (ht : vs.all isTree = true) (h : callA cfg call d s f vs = some (r, s1)) :
    (∀ p, p ≠ d → s1 p = s p) ∧ (s1 d = s d ∨ (s1 d).t = (s d).t + 1) ∧ ∀ s', s' d = s d → ∃ s1', callA cfg call d s' f vs = some (r, s1') ∧ (∀ p, p ≠ d → s1' p = s' p) ∧ s1' d = s1 d := by
  simp only [callA, argsA_trees f _ vs 0 ht, Option.bind_some, givesL_trees, lendsL_trees vs ht, List.nodup_nil, List.not_mem_nil, false_implies, implies_true, and_self, if_true, List.foldl_nil, ite_self] at h ⊢
  simp only [Option.bind_eq_some_iff] at h
  obtain ⟨⟨res, os⟩, hc, s2, hb, hr⟩ := h
  obtain ⟨rfl, hb'⟩ := backA_treesS vs os s s2 hb
  simp only [hc, Option.bind_some, hb']
  cases res with
  | tree v =>
    simp only [resA, Option.some.injEq, Prod.mk.injEq] at hr
    obtain ⟨rfl, rfl⟩ := hr
    exact ⟨fun _ _ => rfl, .inl rfl, fun s' hs => ⟨s', rfl, fun _ _ => rfl, hs⟩⟩
  | _ =>
    simp only [resA, Option.some.injEq, Prod.mk.injEq] at hr
    obtain ⟨rfl, rfl⟩ := hr
    refine ⟨fun p hp => upd_ne _ _ hp, .inr (by simp [upd]), fun s' hs => ⟨upd s' d _, by simp only [resA, hs]; rfl, fun p hp => upd_ne _ _ hp, by simp [upd]⟩⟩

/-! ### Operations that only read: what can be read stays so -/
def Hnd (v : AV) (p t : Nat) : Prop := (∃ off len e, v = .own p t off len e) ∨ ∃ off, v = .ptr p t off
def Mono (s s' : St) (v : AV) : Prop := ∀ p t xs, Hnd v p t → cellsAt s p t = some xs → cellsAt s' p t = some xs
section
variable {s s' : St}
theorem Mono.ptr {p t off : Nat} (h : Mono s s' (.ptr p t off)) {xs : List AV} (hc : cellsAt s p t = some xs) : cellsAt s' p t = some xs := h p t xs (.inr ⟨off, rfl⟩) hc
theorem Mono.own {p t off len e : Nat} (h : Mono s s' (.own p t off len e)) {xs : List AV} (hc : cellsAt s p t = some xs) : cellsAt s' p t = some xs := h p t xs (.inl ⟨off, len, e, rfl⟩) hc
theorem Mono.livep {p t off : Nat} (h : Mono s s' (.ptr p t off)) (hl : live s p t = true) : live s' p t = true := by
  obtain ⟨xs, hx⟩ := live_iff hl
  simp [live, h.ptr hx]
theorem Mono.liveo {p t off len e : Nat} (h : Mono s s' (.own p t off len e)) (hl : live s p t = true) : live s' p t = true := by
  obtain ⟨xs, hx⟩ := live_iff hl
  simp [live, h.own hx]
theorem convA_mono {a b : TypeId} {x r : AV} (h : convA P a b s x = some r) (hm : Mono s s' x) : convA P a b s' x = some r := by
  unfold convA at h ⊢
  split at h
  case h_5 =>
    split at h
    · simp only [Option.bind_eq_some_iff] at h ⊢
      obtain ⟨xs, hx, h⟩ := h
      exact ⟨xs, hm.own hx, h⟩
    · cases h
  all_goals exact h
theorem loadA_mono {t : TypeId} {x r : AV} (h : loadA P t s x = some r) (hm : Mono s s' x) : loadA P t s' x = some r := by
  unfold loadA at h ⊢
  split at h
  · exact h
  · simp only [Option.bind_eq_some_iff] at h
    obtain ⟨xs, hx, h⟩ := h
    simp only [hm.ptr hx, Option.bind_some, h]
  · cases h
theorem fieldAddrA_mono {t i : Nat} {x r : AV} (h : fieldAddrA P t s x i = some r) (hm : Mono s s' x) : fieldAddrA P t s' x i = some r := by
  unfold fieldAddrA at h ⊢
  split at h
  · split at h
    · split at h
      · rename_i hl; rw [if_pos (hm.livep hl)]; exact h
      · cases h
    · exact h
    · cases h
  · cases h
theorem indexAddrA_mono {t : Nat} {x ix r : AV} (h : indexAddrA P t s x ix = some r) (hm : Mono s s' x) : indexAddrA P t s' x ix = some r := by
  unfold indexAddrA at h ⊢
  split at h
  · exact h
  · simp only [Option.bind_eq_some_iff] at h ⊢
    obtain ⟨n, hn, h⟩ := h
    refine ⟨n, hn, ?_⟩
    split at h
    · rename_i hc; rw [if_pos ⟨hm.liveo hc.1, hc.2⟩]; exact h
    · cases h
  · simp only [Option.bind_eq_some_iff] at h ⊢
    obtain ⟨n, hn, h⟩ := h
    refine ⟨n, hn, ?_⟩
    split at h
    · rename_i hc; rw [if_pos ⟨hm.livep hc.1, hc.2⟩]; exact h
    · cases h
  · exact h
  · cases h
theorem lenA_mono {t : Nat} {x r : AV} (h : lenA P t s x = some r) (hm : Mono s s' x) : lenA P t s' x = some r := by
  unfold lenA at h ⊢
  split at h
  · exact h
  · exact h
  · split at h
    · rename_i hl; rw [if_pos (hm.liveo hl)]; exact h
    · cases h
  · exact h
  · cases h
theorem sliceA_mono {t : Nat} {x r : AV} {lo hi mx : Option AV} (h : sliceA P t s x lo hi mx = some r) (hm : Mono s s' x) : sliceA P t s' x lo hi mx = some r := by
  unfold sliceA at h ⊢
  split at h
  · exact h
  · exact h
  · split at h
    · cases h
    · rename_i hc
      simp only [not_or, Bool.not_eq_false] at hc
      rw [if_neg (by simp only [not_or, Bool.not_eq_false]; exact ⟨hc.1, hm.liveo hc.2⟩)]
      exact h
  · split at h
    · cases h
    · rename_i hc
      rw [if_neg hc]
      simp only [Option.bind_eq_some_iff] at h ⊢
      obtain ⟨a, ha, b, hb, c, hc', xs, hx, h⟩ := h
      exact ⟨a, ha, b, hb, c, hc', xs, hm.ptr hx, h⟩
  · cases h
end
/-- What is not loud, and fills nothing anew, leaves the store alone, and answers the same wherever more can be read. -/
theorem opA_calm {o : Oper} {d : Nat} {env : Env} {s s' : St} {r : AV} (hl : loudA o = false) (hf : freshD cfg.keep o = none) (h : opA P cfg call true o d env s = some (r, s')) :
    s' = s ∧ ∀ s2, (∀ x ∈ o.op.operands, Mono s s2 (ev env x)) → opA P cfg call true o d env s2 = some (r, s2) := by
  have mp : ∀ {x : Option AV}, x.map (·, s) = some (r, s') → s' = s ∧ x = some r := fun h => by
    obtain ⟨_, hx, e⟩ := map_some h; cases e; exact ⟨rfl, hx⟩
  have hop : ∃ k, o.op = k := ⟨_, rfl⟩
  obtain ⟨k, hop⟩ := hop
  unfold loudA at hl
  unfold opA at h ⊢
  simp only [hop] at h hl ⊢
  cases k
  case move x => simp only [Option.some.injEq, Prod.mk.injEq] at h ⊢; obtain ⟨rfl, rfl⟩ := h; exact ⟨rfl, fun _ _ => ⟨rfl, trivial⟩⟩
  case assign x => simp only [Option.some.injEq, Prod.mk.injEq] at h ⊢; obtain ⟨rfl, rfl⟩ := h; exact ⟨rfl, fun _ _ => ⟨rfl, trivial⟩⟩
  case pick c a b =>
    dsimp only at h ⊢
    split at h
    · simp only [Option.some.injEq, Prod.mk.injEq] at h ⊢; obtain ⟨h1, rfl⟩ := h; exact ⟨rfl, fun _ _ => ⟨h1, trivial⟩⟩
    · cases h
  case binOp => obtain ⟨e, hx⟩ := mp h; exact ⟨e, fun s2 _ => by dsimp only; rw [hx]; rfl⟩
  case unOp => obtain ⟨e, hx⟩ := mp h; exact ⟨e, fun s2 _ => by dsimp only; rw [hx]; rfl⟩
  case convert u v x => obtain ⟨e, hx⟩ := mp h; exact ⟨e, fun s2 hm => by dsimp only; rw [convA_mono hx (hm x (by simp [Op.operands]))]; rfl⟩
  case extract x i =>
    dsimp only at h ⊢
    split at h
    · obtain ⟨e, hx⟩ := mp h; exact ⟨e, fun s2 _ => by rw [hx]; rfl⟩
    · cases h
  case load u x => obtain ⟨e, hx⟩ := mp h; exact ⟨e, fun s2 hm => by dsimp only; rw [loadA_mono hx (hm x (by simp [Op.operands]))]; rfl⟩
  case fieldAddr u x i => obtain ⟨e, hx⟩ := mp h; exact ⟨e, fun s2 hm => by dsimp only; rw [fieldAddrA_mono hx (hm x (by simp [Op.operands]))]; rfl⟩
  case field u x i => obtain ⟨e, hx⟩ := mp h; exact ⟨e, fun s2 _ => by dsimp only; rw [hx]; rfl⟩
  case indexAddr u x i => obtain ⟨e, hx⟩ := mp h; exact ⟨e, fun s2 hm => by dsimp only; rw [indexAddrA_mono hx (hm x (by simp [Op.operands]))]; rfl⟩
  case index u x i => obtain ⟨e, hx⟩ := mp h; exact ⟨e, fun s2 _ => by dsimp only; rw [hx]; rfl⟩
  case slice u x lo hi mx => obtain ⟨e, hx⟩ := mp h; exact ⟨e, fun s2 hm => by dsimp only; rw [sliceA_mono hx (hm x (by simp [Op.operands]))]; rfl⟩
  case nilCheck x =>
    dsimp only at h ⊢
    split at h
    · rename_i p t off hx
      split at h
      · rename_i hlv
        simp only [Option.some.injEq, Prod.mk.injEq] at h; obtain ⟨h1, rfl⟩ := h
        refine ⟨rfl, fun s2 hm => ?_⟩
        have hmx := hm x (by simp [Op.operands])
        rw [hx] at hmx
        rw [if_pos (hmx.livep hlv), h1]
      · cases h
    · simp only [Option.some.injEq, Prod.mk.injEq] at h; obtain ⟨h1, rfl⟩ := h
      exact ⟨rfl, fun s2 _ => by rw [h1]⟩
    · cases h
  case build u parts =>
    dsimp only at h ⊢
    simp only [Option.bind_eq_some_iff] at h ⊢
    obtain ⟨z, hz, h⟩ := h
    split at h
    · simp only [Option.bind_eq_some_iff] at h
      obtain ⟨pl, hp, h⟩ := h
      obtain ⟨e, hx⟩ := mp h
      exact ⟨e, fun s2 _ => ⟨z, hz, by simp only [hp, Option.bind_some, hx]; rfl⟩⟩
    · simp only [Option.bind_eq_some_iff] at h
      obtain ⟨pl, hp, h⟩ := h
      obtain ⟨e, hx⟩ := mp h
      exact ⟨e, fun s2 _ => ⟨z, hz, by simp only [hp, Option.bind_some, hx]; rfl⟩⟩
    · cases h
  case buildSlice u len parts =>
    dsimp only at h ⊢
    split at h
    · simp only [Option.bind_eq_some_iff] at h ⊢
      obtain ⟨a, ha, z, hz, h⟩ := h
      split at h
      · rename_i hc
        obtain ⟨e, hx⟩ := mp h
        exact ⟨e, fun s2 _ => ⟨a, ha, z, hz, by rw [if_pos hc, hx]; rfl⟩⟩
      · cases h
    · cases h
  case makeInterface u x =>
    dsimp only at h ⊢
    simp only [Option.bind_eq_some_iff] at h ⊢
    obtain ⟨v, hv, h⟩ := h
    split at h
    · cases h
    · cases h
    · simp only [Option.some.injEq, Prod.mk.injEq] at h; obtain ⟨h1, rfl⟩ := h
      exact ⟨rfl, fun s2 _ => ⟨v, hv, by rw [h1]⟩⟩
  case call c =>
    dsimp only at h hl ⊢
    have hops : ∀ x ∈ c.args.toList, x ∈ (Op.call c).operands := fun x hx => by
      simp only [Op.operands, Call.operands]
      cases c.callee <;> simp [Array.mem_def, hx]
    split at h
    case h_2 hb => rw [hb] at hl; cases hl
    case h_3 hb => rw [hb] at hl; cases hl
    case h_1 hb =>
      split at h
      · rename_i x t hx _
        obtain ⟨e, hv⟩ := mp h
        exact ⟨e, fun s2 hm => by rw [lenA_mono hv (hm x (hops x (by rw [hx]; simp)))]; rfl⟩
      · cases h
    case h_4 hb =>
      split at h
      · obtain ⟨e, hv⟩ := mp h
        exact ⟨e, fun s2 _ => by rw [hv]; rfl⟩
      · cases h
    case h_5 hb =>
      split at h
      · obtain ⟨e, hv⟩ := mp h
        exact ⟨e, fun s2 _ => by rw [hv]; rfl⟩
      · cases h
    case h_6 hb =>
      split at h
      · simp only [if_true, hf, Option.isSome_none, Bool.false_eq_true, if_false] at h ⊢
        obtain ⟨e, hv⟩ := mp h
        exact ⟨e, fun s2 _ => by rw [hv]; rfl⟩
      · cases h
    · cases h
  all_goals first | (cases hl; done) | (cases h; done)
/-- What does not ask the store answers the same in every one. -/
theorem opA_inert {o : Oper} {d : Nat} {env : Env} {s s' : St} {r : AV} (hl : inertA o = true) (h : opA P cfg call true o d env s = some (r, s')) : s' = s ∧ ∀ s2, opA P cfg call true o d env s2 = some (r, s2) := by
  have mp : ∀ {x : Option AV}, x.map (·, s) = some (r, s') → s' = s ∧ x = some r := fun h => by
    obtain ⟨_, hx, e⟩ := map_some h; cases e; exact ⟨rfl, hx⟩
  obtain ⟨k, hop⟩ : ∃ k, o.op = k := ⟨_, rfl⟩
  unfold inertA at hl
  unfold opA at h ⊢
  simp only [hop] at h hl ⊢
  cases k
  case move x => simp only [Option.some.injEq, Prod.mk.injEq] at h ⊢; obtain ⟨rfl, rfl⟩ := h; exact ⟨rfl, fun _ => ⟨rfl, trivial⟩⟩
  case assign x => simp only [Option.some.injEq, Prod.mk.injEq] at h ⊢; obtain ⟨rfl, rfl⟩ := h; exact ⟨rfl, fun _ => ⟨rfl, trivial⟩⟩
  case pick c a b =>
    dsimp only at h ⊢
    split at h
    · simp only [Option.some.injEq, Prod.mk.injEq] at h ⊢; obtain ⟨h1, rfl⟩ := h; exact ⟨rfl, fun _ => ⟨h1, trivial⟩⟩
    · cases h
  case binOp => obtain ⟨e, hx⟩ := mp h; exact ⟨e, fun s2 => by dsimp only; rw [hx]; rfl⟩
  case unOp => obtain ⟨e, hx⟩ := mp h; exact ⟨e, fun s2 => by dsimp only; rw [hx]; rfl⟩
  case extract x i =>
    dsimp only at h ⊢
    split at h
    · obtain ⟨e, hx⟩ := mp h; exact ⟨e, fun s2 => by rw [hx]; rfl⟩
    · cases h
  case field u x i => obtain ⟨e, hx⟩ := mp h; exact ⟨e, fun s2 => by dsimp only; rw [hx]; rfl⟩
  case index u x i => obtain ⟨e, hx⟩ := mp h; exact ⟨e, fun s2 => by dsimp only; rw [hx]; rfl⟩
  all_goals (cases hl; done)
theorem fresh_noisy {keep : FuncId → Bool} {o : Oper} {d : Nat} (h : freshD keep o = some d) : inertA o = false := by
  unfold freshD at h
  unfold inertA
  split at h
  · cases h
  · split at h <;> rename_i hop <;> first | (rw [hop]; done) | cases h | skip
    all_goals rw [hop]
/-- What fills an entry anew fills that one alone, and fills it the same whatever the others hold. -/
theorem opA_fresh {o : Oper} {d : Nat} {env : Env} {s s1 : St} {r : AV} (hf : freshD cfg.keep o = some d) (h : opA P cfg call true o d env s = some (r, s1)) :
    (∀ p, p ≠ d → s1 p = s p) ∧ (s1 d = s d ∨ (s1 d).t = (s d).t + 1) ∧ ∀ s', s' d = s d → ∃ s1', opA P cfg call true o d env s' = some (r, s1') ∧ (∀ p, p ≠ d → s1' p = s' p) ∧ s1' d = s1 d := by
  have hf0 := hf
  unfold freshD at hf
  split at hf
  · cases hf
  · unfold opA at h ⊢
    split at hf
    · rename_i hop
      simp only [hop] at h ⊢
      obtain ⟨z, hz, e⟩ := map_some h
      cases e
      exact ⟨fun p hp => upd_ne _ _ hp, .inr (by simp [upd]), fun s' hs => ⟨upd s' d _, by simp only [hz, Option.map_some, hs]; rfl, fun p hp => upd_ne _ _ hp, by simp [upd]⟩⟩
    · rename_i u l c hop
      simp only [hop] at h ⊢
      unfold makeA at h ⊢
      split at h
      · simp only [Option.bind_eq_some_iff] at h
        obtain ⟨a, ha, z, hz, h⟩ := h
        split at h
        · rename_i hc
          simp only [Option.some.injEq, Prod.mk.injEq] at h
          obtain ⟨rfl, rfl⟩ := h
          exact ⟨fun p hp => upd_ne _ _ hp, .inr (by simp [upd]), fun s' hs => ⟨upd s' d _, by simp only [ha, hz, Option.bind_some, hc, if_true, and_self, hs]; rfl, fun p hp => upd_ne _ _ hp, by simp [upd]⟩⟩
        · cases h
      · cases h
    · rename_i c hop
      simp only [hop] at h ⊢
      split at hf
      · rename_i f hb
        simp only [hb] at h ⊢
        simp only [ev, if_true, hf0, Option.isSome_some] at h ⊢
        split at h
        · rename_i ht
          have := callA_treesS ht h
          simpa only [ht, if_true] using this
        · cases h
      · cases hf
    · cases hf

/-- The temporaries behind the operations of D. -/
structure PartOk (Γ : G) (ops : Array Oper) (env : Env) (r : Nat → AV) (D : Nat → Prop) (a : Act) (m : Nat) : Prop where
  defers : a.defers = []
  size : a.tmps.size = m
  val : ∀ t y, Last ops env r D t y → V Γ y (a.tmps.getD t undef)

theorem listed_lt {listed : Array Bool} {i n : Nat} (hn : listed.size = n) (h : listed.getD i false = true) : i < n := by
  rcases Nat.lt_or_ge i listed.size with h' | h'
  · omega
  · simp [h'] at h
theorem getD_swap {listed : Array Bool} {i : Nat} (hi : i < listed.size) (b c : Bool) : listed.getD i b = listed.getD i c := by simp [hi]

theorem freshD_dst {keep : FuncId → Bool} {o : Oper} {d : Nat} (h : freshD keep o = some d) : o.dst = some d := by
  unfold freshD at h
  (repeat' split at h) <;> first | exact h | cases h
theorem cellsAt_t {s : St} {p t : Nat} {xs : List AV} (h : cellsAt s p t = some xs) : (s p).t = t := by
  unfold cellsAt at h
  rcases hsp : s p with ⟨t', c⟩
  rw [hsp] at h
  cases c with
  | buf ys => dsimp only at h; split at h; assumption; cases h
  | frz ys => dsimp only at h; split at h; assumption; cases h
  | dead => cases h
  | tok e => cases h
/-- The store while what only reads, or fills anew, is under way. -/
structure Half (keep : FuncId → Bool) (ops : Array Oper) (mm : Nat) (Sg : Nat → St) (L : Nat → Prop) [DecidablePred L] (s : St) : Prop where
  old : ∀ p, (∀ i o, i < mm → ops[i]? = some o → freshD keep o ≠ some p) → s p = Sg 0 p
  new : ∀ i o p, i < mm → ops[i]? = some o → freshD keep o = some p → s p = if L i then Sg (i + 1) p else Sg 0 p
theorem Trace.half {ops : Array Oper} {mm : Nat} (hD : DrawOk cfg.keep ops mm) {r : Nat → AV} {E : Nat → Env} {Sg : Nat → St} (hT : Trace P cfg call true ops 0 ops.size r E Sg) : ∀ k, k ≤ mm → k ≤ ops.size → Half cfg.keep ops mm Sg (fun i => i < k) (Sg k)
  | 0, _, _ => ⟨fun _ _ => rfl, fun i o p _ _ _ => by simp⟩
  | k + 1, h1, h2 => by
    have ih := Trace.half hD hT k (by omega) (by omega)
    obtain ⟨o, g1, _, g3⟩ := hT.step k (Nat.zero_le _) (by omega)
    have hst : ∀ p, freshD cfg.keep o ≠ some p → Sg (k + 1) p = Sg k p := by
      intro p hp
      rcases g3 with ⟨_, g4⟩ | ⟨_, _, g4⟩
      · cases hf : freshD cfg.keep o with
        | none =>
          rcases hD.pre k o (by omega) g1 with h | h
          · rw [(opA_calm h hf g4).1]
          · rw [hf] at h; cases h
        | some d =>
          have hdd : o.dst = some d := freshD_dst hf
          rw [hdd] at g4
          refine (opA_fresh hf g4).1 p fun e => hp ?_
          rw [hf, e]
      · rw [g4]
    refine ⟨fun p hp => (hst p (hp k o (by omega) g1)).trans (ih.old p hp), fun i o' p hi ho' hf => ?_⟩
    by_cases hik : i = k
    · subst hik; simp
    · have hne : freshD cfg.keep o ≠ some p := fun hfo => by
        rcases Nat.lt_or_gt_of_ne hik with h | h
        · exact hD.uniq k i o o' p h g1 ho' hfo hf
        · exact hD.uniq i k o' o p h ho' g1 hf hfo
      rw [hst p hne, ih.new i o' p hi ho' hf]
      by_cases hlt : i < k
      · rw [if_pos hlt, if_pos (show i < k + 1 by omega)]
      · rw [if_neg hlt, if_neg (show ¬ i < k + 1 by omega)]
theorem Half.all {keep : FuncId → Bool} {ops : Array Oper} {mm : Nat} {Sg : Nat → St} {L L' : Nat → Prop} [DecidablePred L] [DecidablePred L'] {s s' : St} (h : Half keep ops mm Sg L s) (h' : Half keep ops mm Sg L' s') (hL : ∀ k o p, k < mm → ops[k]? = some o → freshD keep o = some p → (L k ↔ L' k)) : s = s' := by
  funext p
  by_cases hp : ∀ i o, i < mm → ops[i]? = some o → freshD keep o ≠ some p
  · rw [h.old p hp, h'.old p hp]
  · simp only [Classical.not_forall, Classical.not_not] at hp
    obtain ⟨i, o, hi, ho, hf⟩ := hp
    rw [h.new i o p hi ho hf, h'.new i o p hi ho hf]
    simp only [hL i o p hi ho hf]
theorem Trace.still {ops : Array Oper} {r : Nat → AV} {E : Nat → Env} {Sg : Nat → St} (hT : Trace P cfg call true ops 0 ops.size r E Sg) (i : Nat) : ∀ j, i ≤ j → j ≤ ops.size → (∀ k o, i ≤ k → k < j → ops[k]? = some o → inertA o = true) → Sg j = Sg i
  | 0, h, _, _ => by have : i = 0 := by omega
                     subst this; rfl
  | j + 1, h, hj, hk => by
    by_cases hij : i = j + 1
    · subst hij; rfl
    · have ih := Trace.still hT i j (by omega) (by omega) fun k o h1 h2 h3 => hk k o h1 (by omega) h3
      obtain ⟨o, g1, _, g3⟩ := hT.step j (Nat.zero_le _) (by omega)
      have hin := hk j o (by omega) (by omega) g1
      rcases g3 with ⟨_, g4⟩ | ⟨_, _, g4⟩
      · rw [(opA_inert hin g4).1, ih]
      · rw [g4, ih]
/-- Any order of what draws its order. -/
theorem draw_ok (hcall : FnOk P call) {ops : Array Oper} {mm : Nat} {Q : Exit → Act → World → Prop} (hD : DrawOk cfg.keep ops mm) {m : Nat} (hd : ∀ o ∈ ops.toList, ∀ d, o.dst = some d → d < m)
    {r : Nat → AV} {E : Nat → Env} {Sg : Nat → St} (hT : Trace P cfg call true ops 0 ops.size r E Sg) (hkill : ∀ (i : Nat) o p, ops[i]? = some o → freshD cfg.keep o = some p → (Sg 0 p).c = .dead) {Γ0 : G}
    (hQ : ∀ Γ' a', Γ'.s = Sg ops.size → Inv Γ' → Ext Γ0 Γ' → EnvOk Γ' (E ops.size) a' m → Q .normal a' Γ'.w) :
    ∀ (fuel : Nat) (listed : Array Bool) (Γ : G) (a : Act), listed.size = ops.size → left ops.size listed ≤ fuel → Inv Γ → Ext Γ0 Γ →
      (∀ i o, listed.getD i false = true → ops[i]? = some o → ∀ e ∈ o.after, Region.binds .any e = true → listed.getD e.on false = true) →
      PartOk Γ ops (E 0) r (fun i => listed.getD i false = true) a m →
      (((∀ (i : Nat) o, ops[i]? = some o → inertA o = false → listed.getD i false = true → i < mm) ∧ Half cfg.keep ops mm Sg (fun i => listed.getD i false = true) Γ.s) ∨ ∃ i, mm ≤ i ∧ i ≤ ops.size ∧ (∀ (k : Nat) o, ops[k]? = some o → inertA o = false → (listed.getD k false = true ↔ k < i)) ∧ Γ.s = Sg i) →
      wpAny P .any ops Q fuel listed a Γ.w := by
  have hsz : ∀ {i o}, ops[i]? = some o → i < ops.size := fun {i o} ho => by
    rcases Nat.lt_or_ge i ops.size with h | h
    · exact h
    · rw [Array.getElem?_eq_none h] at ho; cases ho
  have hall : ∀ (listed : Array Bool), listed.size = ops.size → Region.ready .any ops listed = [] → ∀ i, i < ops.size → listed.getD i false = true := by
    intro listed hls hr i
    induction i using Nat.strongRecOn with
    | _ i ih =>
      intro hi
      by_cases hli : listed.getD i false = true
      · exact hli
      · exfalso
        have hmem : i ∈ Region.ready .any ops listed := mem_ready.2 ⟨by rw [getD_swap (by omega) true false]; simpa using hli, ops[i], Array.getElem?_eq_getElem hi, fun e he hb => by
          have := hD.back i ops[i] (Array.getElem?_eq_getElem hi) e he hb
          exact ih e.on this (by omega)⟩
        rw [hr] at hmem; cases hmem
  have hdone : ∀ (listed : Array Bool) (Γ : G) (a : Act), listed.size = ops.size → (∀ i, i < ops.size → listed.getD i false = true) → Inv Γ → Ext Γ0 Γ → PartOk Γ ops (E 0) r (fun i => listed.getD i false = true) a m →
      (((∀ (i : Nat) o, ops[i]? = some o → inertA o = false → listed.getD i false = true → i < mm) ∧ Half cfg.keep ops mm Sg (fun i => listed.getD i false = true) Γ.s) ∨ ∃ i, mm ≤ i ∧ i ≤ ops.size ∧ (∀ (k : Nat) o, ops[k]? = some o → inertA o = false → (listed.getD k false = true ↔ k < i)) ∧ Γ.s = Sg i) → Q .normal a Γ.w := by
    intro listed Γ a hls hfull hI hE hp hst
    refine hQ Γ a ?_ hI hE ⟨hp.defers, hp.size, fun t => hp.val t _ ?_⟩
    · rcases hst with ⟨h1, h2⟩ | ⟨i, h1, h2, h3, h4⟩
      · rcases Nat.lt_or_ge ops.size mm with hmm | hmm
        · exact h2.all (hT.half hD ops.size (by omega) (Nat.le_refl _)) fun k o p hk ho _ => ⟨fun _ => hsz ho, fun _ => hfull k (hsz ho)⟩
        · rw [hT.still mm ops.size hmm (Nat.le_refl _) fun k o hk1 hk2 ho => by
            cases hin : inertA o with
            | true => rfl
            | false => have := h1 k o ho hin (hfull k (hsz ho)); omega]
          exact h2.all (hT.half hD mm (Nat.le_refl _) hmm) fun k o p hk ho _ => ⟨fun _ => hk, fun _ => hfull k (hsz ho)⟩
      · rw [h4, hT.still i ops.size h2 (Nat.le_refl _) fun k o hk1 hk2 ho => by
          cases hin : inertA o with
          | true => rfl
          | false => have := (h3 k o ho hin).1 (hfull k (hsz ho)); omega]
    · refine (hT.last t ops.size (Nat.le_refl _)).congr fun k hk => ?_
      have hklt : k < ops.size := by
        cases hok : ops[k]? with
        | none => rw [hok] at hk; cases hk
        | some o => exact hsz hok
      exact ⟨fun _ => hfull k hklt, fun _ => hklt⟩
  intro fuel
  induction fuel with
  | zero =>
    intro listed Γ a hls hleft hI hE hcl hp hst
    have hfull : ∀ i, i < ops.size → listed.getD i false = true := fun i hi => by
      rw [getD_swap (by omega) false true]; exact left_zero (by omega) hi
    refine ⟨?_, hdone listed Γ a hls hfull hI hE hp hst⟩
    cases hr : Region.ready .any ops listed with
    | nil => rfl
    | cons i l =>
      exfalso
      have hmem : i ∈ Region.ready .any ops listed := by rw [hr]; exact List.mem_cons_self ..
      obtain ⟨h1, o, ho, _⟩ := mem_ready.1 hmem
      have := hfull i (hsz ho)
      rw [getD_swap (by have := hsz ho; omega) false true, h1] at this
      cases this
  | succ fuel ih =>
    intro listed Γ a hls hleft hI hE hcl hp hst
    refine ⟨fun hr => hdone listed Γ a hls (hall listed hls hr) hI hE hp hst, fun i hi => ?_⟩
    obtain ⟨hun, o, ho, hafter⟩ := mem_ready.1 hi
    have hilt := hsz ho
    have hunf : ¬ listed.getD i false = true := by rw [getD_swap (by omega) false true, hun]; simp
    have hwait : ∀ k, waitsFor ops ops.size i k = true → listed.getD k false = true := fun k hk => waits_in (D := fun k => listed.getD k false = true) hcl ops.size i k o ho hafter hk
    -- a writer of what is named here stands before, or behind
    have hord : ∀ k p, ops[k]? = some p → (∀ d, p.dst = some d → d ∈ namesOf ops o → (listed.getD k false = true ↔ k < i)) := by
      intro k p hk d hd' hdn
      obtain ⟨t1, t2⟩ := touches_names hd' hdn
      constructor
      · intro hlk
        rcases Nat.lt_trichotomy k i with h | h | h
        · exact h
        · subst h; exact absurd hlk hunf
        · exfalso
          have hw := hD.ord k i p o h hk ho t2
          have := waits_in (D := fun k => listed.getD k false = true) hcl ops.size k i p hk (hcl k p hlk hk) hw
          exact hunf this
      · intro h
        exact hwait k (hD.ord i k o p h ho hk t1)
    have hread : ∀ t, t ∈ namesOf ops o → V Γ (E i t) (a.tmps.getD t undef) := fun t ht => by
      refine hp.val t _ ((hT.last t i (by omega)).congr fun k hk => ?_)
      cases hok : ops[k]? with
      | none => rw [hok] at hk; cases hk
      | some p =>
        rw [hok] at hk
        exact (hord k p hok t hk ht).symm
    obtain ⟨o', g1, g2, g3⟩ := hT.step i (Nat.zero_le _) hilt
    rw [ho] at g1; cases g1
    have hsi : inertA o = false → ((∀ (k : Nat) o, ops[k]? = some o → inertA o = false → listed.getD k false = true → k < mm) ∧ i < mm ∧ Half cfg.keep ops mm Sg (fun i => listed.getD i false = true) Γ.s) ∨ (mm ≤ i ∧ (∀ (k : Nat) o, ops[k]? = some o → inertA o = false → (listed.getD k false = true ↔ k < i)) ∧ Γ.s = Sg i) := by
      intro hin
      rcases hst with ⟨h1, h2⟩ | ⟨j, h1, h2, h3, h4⟩
      · by_cases him : i < mm
        · exact .inl ⟨h1, him, h2⟩
        · -- all that asks the store stands there, as far as before: it is the first loud one
          have hb : ∀ (k : Nat) p, k < i → ops[k]? = some p → inertA p = false → listed.getD k false = true := fun k p hk hp hpi => hwait k (hD.tail i k o p hk ho hp (by omega) hin hpi)
          refine .inr ⟨by omega, fun k p hp hpi => ⟨fun hk => by have := h1 k p hp hpi hk; omega, fun hk => hb k p hk hp hpi⟩, ?_⟩
          rw [hT.still mm i (by omega) (by omega) fun k p hk1 hk2 hp => by
            cases hpi : inertA p with
            | true => rfl
            | false => have := h1 k p hp hpi (hb k p hk2 hp hpi); omega]
          exact h2.all (hT.half hD mm (Nat.le_refl _) (by omega)) fun k p q hk hp hf => ⟨fun _ => hk, fun _ => hb k p (by omega) hp (fresh_noisy hf)⟩
      · have hji : j ≤ i := by
          rcases Nat.lt_or_ge i j with h | h
          · exact absurd ((h3 i o ho hin).2 h) hunf
          · exact h
        have hb : ∀ (k : Nat) p, k < i → ops[k]? = some p → inertA p = false → k < j := fun k p hk hp hpi => (h3 k p hp hpi).1 (hwait k (hD.tail i k o p hk ho hp (by omega) hin hpi))
        refine .inr ⟨by omega, fun k p hp hpi => ⟨fun hk => by have := (h3 k p hp hpi).1 hk; omega, fun hk => (h3 k p hp hpi).2 (hb k p hk hp hpi)⟩, ?_⟩
        rw [h4, hT.still j i hji (by omega) fun k p hk1 hk2 hp => by
          cases hpi : inertA p with
          | true => rfl
          | false => have := hb k p hk2 hp hpi; omega]
    have hd1 : ∀ x, o.dst = some x → x < m := hd o (by
      have e : ops.toList[i]? = some o := by simpa using ho
      exact List.mem_of_getElem? e)
    have hwant : ∀ b, wantA ops o (E i) = some b → Region.wanted o (yielded ops a.tmps) = b := fun b hb => wantA_ok hb fun j w d hg hdj => hread d (by
      simp only [namesOf, readsOf, hg, hdj, List.mem_append]
      exact .inr (.inr (by simp)))
    have hi' : listed.size = (listed.setIfInBounds i true).size := by simp
    -- on, with one more listed
    have hlist0 : ∀ k, (listed.setIfInBounds i true).getD k false = true ↔ (listed.getD k false = true ∨ k = i) := fun k => by
      by_cases hk : k = i
      · subst hk
        have hks : k < listed.size := by omega
        simp [hks]
      · rw [getD_set_ne false (Ne.symm hk)]; simp [hk]
    have hon : ∀ (Γ' : G) (v : Value), (((∀ (k : Nat) o, ops[k]? = some o → inertA o = false → (listed.setIfInBounds i true).getD k false = true → k < mm) ∧ Half cfg.keep ops mm Sg (fun k => (listed.setIfInBounds i true).getD k false = true) Γ'.s) ∨ ∃ j, mm ≤ j ∧ j ≤ ops.size ∧ (∀ (k : Nat) o, ops[k]? = some o → inertA o = false → ((listed.setIfInBounds i true).getD k false = true ↔ k < j)) ∧ Γ'.s = Sg j) → Inv Γ' → Ext Γ Γ' → V Γ' (r i) v → wpAny P .any ops Q fuel (listed.setIfInBounds i true) (a.put o.dst v) Γ'.w := by
      intro Γ' v hs' hI' hE' hv
      have hlist : ∀ k, (listed.setIfInBounds i true).getD k false = true ↔ (listed.getD k false = true ∨ k = i) := fun k => by
        by_cases hk : k = i
        · subst hk
          have hks : k < listed.size := by omega
          simp [hks]
        · rw [getD_set_ne false (Ne.symm hk)]; simp [hk]
      refine ih _ Γ' _ (by omega) (by have := left_set (listed := listed) (n := ops.size) (i := i) hilt hun; omega) hI' (hE.trans hE') (fun j p hj hp' e he hb => ?_) ⟨(put_tmps a o.dst v).1.trans hp.defers, (put_tmps a o.dst v).2.trans hp.size, fun t y hy => ?_⟩ ?_
      · rw [hlist] at hj ⊢
        rcases hj with hj | rfl
        · exact .inl (hcl j p hj hp' e he hb)
        · rw [ho] at hp'; cases hp'; exact .inl (hafter e he hb)
      · by_cases htd : o.dst = some t
        · -- what it wrote
          have hget : (a.put o.dst v).tmps.getD t undef = v := by
            rw [htd, put_get a t v t (by rw [hp.size]; exact hd1 t htd)]; simp
          rw [hget]
          have hnm : t ∈ namesOf ops o := by simp [namesOf, htd]
          rcases hy with ⟨k, h1, h2, h3, h4⟩ | ⟨h1, _⟩
          · have hki : k = i := by
              have h5 := h3 i ((hlist i).2 (.inr rfl)) (by rw [ho]; exact htd)
              rcases (hlist k).1 h1 with h6 | h6
              · cases hok : ops[k]? with
                | none => rw [hok] at h2; cases h2
                | some p =>
                  rw [hok] at h2
                  have := (hord k p hok t h2 hnm).1 h6
                  omega
              · exact h6
            rw [h4, hki]; exact hv
          · exact absurd (by rw [ho]; exact htd) (h1 i ((hlist i).2 (.inr rfl)))
        · have hget : (a.put o.dst v).tmps.getD t undef = a.tmps.getD t undef := by
            cases hdd : o.dst with
            | none => rfl
            | some d =>
              rw [put_get a d v t (by rw [hp.size]; exact hd1 d hdd), if_neg (fun e => htd (by rw [hdd, e]))]
          rw [hget]
          refine V.ext hE' (hp.val t y (hy.congr fun k hk => ?_))
          rw [hlist]
          constructor
          · rintro (h | rfl)
            · exact h
            · rw [ho] at hk; exact absurd hk htd
          · exact .inl
      · exact hs'
    have hopsV : OpsOk Γ (E i) a o := fun x hx => by
      cases x with
      | tmp t => exact hread t (by
          simp only [namesOf, readsOf, tmpsOf, List.mem_append, List.mem_filterMap]
          exact .inr (.inl ⟨.tmp t, Array.mem_def.1 hx, rfl⟩))
      | const v => exact V_ofV v
      | global g => exact V_cell (x := .undef) (by simp only [V0])
      | func f => exact V_cell ⟨[], rfl, VT.nil⟩
    -- behind the operation
    have hnext : ∀ s1 : St, (inertA o = true → s1 = Γ.s) → (inertA o = false → mm ≤ i → s1 = Sg (i + 1)) → (i < mm → (∀ p, freshD cfg.keep o ≠ some p → s1 p = Γ.s p) ∧ ∀ p, freshD cfg.keep o = some p → s1 p = Sg (i + 1) p) →
        (((∀ (k : Nat) o, ops[k]? = some o → inertA o = false → (listed.setIfInBounds i true).getD k false = true → k < mm) ∧ Half cfg.keep ops mm Sg (fun k => (listed.setIfInBounds i true).getD k false = true) s1) ∨ ∃ j, mm ≤ j ∧ j ≤ ops.size ∧ (∀ (k : Nat) o, ops[k]? = some o → inertA o = false → ((listed.setIfInBounds i true).getD k false = true ↔ k < j)) ∧ s1 = Sg j) := by
      intro s1 hi0 ht hp
      cases hin : inertA o with
      | true =>
        rw [hi0 hin]
        have hsame : ∀ (k : Nat) o', ops[k]? = some o' → inertA o' = false → ((listed.setIfInBounds i true).getD k false = true ↔ listed.getD k false = true) := fun k o' ho' hin' => by
          rw [hlist0]
          constructor
          · rintro (h | rfl)
            · exact h
            · rw [ho] at ho'; cases ho'; rw [hin] at hin'; cases hin'
          · exact .inl
        rcases hst with ⟨h1, h2⟩ | ⟨j, h1, h2, h3, h4⟩
        · refine .inl ⟨fun k o' ho' hin' hk => h1 k o' ho' hin' ((hsame k o' ho' hin').1 hk), ⟨h2.old, fun k o' p hk ho' hf => ?_⟩⟩
          rw [h2.new k o' p hk ho' hf]
          simp only [hsame k o' ho' (fresh_noisy hf)]
        · exact .inr ⟨j, h1, h2, fun k o' ho' hin' => (hsame k o' ho' hin').trans (h3 k o' ho' hin'), h4⟩
      | false =>
        rcases hsi hin with ⟨h1, h2, h3⟩ | ⟨h1, h2, h3⟩
        · obtain ⟨p1, p2⟩ := hp h2
          refine .inl ⟨fun k o' ho' hin' hk => ?_, ⟨fun p hnf => (p1 p (hnf i o h2 ho)).trans (h3.old p hnf), fun k o' p hk ho' hf => ?_⟩⟩
          · rcases (hlist0 k).1 hk with h | rfl
            · exact h1 k o' ho' hin' h
            · exact h2
          · by_cases hki : k = i
            · subst hki
              rw [ho] at ho'; cases ho'
              rw [p2 p hf, if_pos ((hlist0 k).2 (.inr rfl))]
            · have hne : freshD cfg.keep o ≠ some p := fun hfo => by
                rcases Nat.lt_or_gt_of_ne hki with h | h
                · exact hD.uniq i k o o' p h ho ho' hfo hf
                · exact hD.uniq k i o' o p h ho' ho hf hfo
              rw [p1 p hne, h3.new k o' p hk ho' hf]
              have : (listed.setIfInBounds i true).getD k false = true ↔ listed.getD k false = true := by
                rw [hlist0]; simp [hki]
              simp only [this]
        · refine .inr ⟨i + 1, by omega, by omega, fun k o' ho' hin' => ?_, ht hin h1⟩
          rw [hlist0, h2 k o' ho' hin']; omega
    have hmono : i < mm → Half cfg.keep ops mm Sg (fun i => listed.getD i false = true) Γ.s → ∀ x ∈ o.op.operands, Mono (Sg i) Γ.s (ev (E i) x) := by
      intro him hh x hx p t xs hh2 hc
      have hle : t ≤ (Γ.s p).t := by
        have hV := hopsV x hx
        rcases hh2 with ⟨off, len, e, hx2⟩ | ⟨off, hx2⟩
        · rw [hx2] at hV; exact hV.1
        · rw [hx2] at hV; exact hV.1
      have hi2 := hT.half hD i (by omega) (by omega)
      by_cases hp : ∀ i o, i < mm → ops[i]? = some o → freshD cfg.keep o ≠ some p
      · have e1 := hh.old p hp
        have e2 := hi2.old p hp
        unfold cellsAt at hc ⊢
        rw [e1, ← e2]; exact hc
      · simp only [Classical.not_forall, Classical.not_not] at hp
        obtain ⟨k, o2, hk, ho2, hf⟩ := hp
        have e1 := hh.new k o2 p hk ho2 hf
        have e2 := hi2.new k o2 p hk ho2 hf
        have hdead := hkill k o2 p ho2 hf
        have hno : ∀ (s : St), s p = Sg 0 p → cellsAt s p t = none := fun s hs => by
          unfold cellsAt
          rw [hs]
          rcases h0 : Sg 0 p with ⟨t0, c0⟩
          rw [h0] at hdead
          dsimp only at hdead
          subst hdead; rfl
        by_cases hki : k < i
        · rw [if_pos hki] at e2
          by_cases hlk : listed.getD k false = true
          · rw [if_pos hlk] at e1
            unfold cellsAt at hc ⊢
            rw [e1, ← e2]; exact hc
          · exfalso
            rw [if_neg hlk] at e1
            have hkk := (hT.half hD k (by omega) (by omega)).new k o2 p hk ho2 hf
            simp only [Nat.lt_irrefl, if_false] at hkk
            obtain ⟨o3, q1, _, q3⟩ := hT.step k (Nat.zero_le _) (hsz ho2)
            rw [ho2] at q1; cases q1
            have hnew : Sg (k + 1) p = Sg k p ∨ (Sg (k + 1) p).t = (Sg k p).t + 1 := by
              rcases q3 with ⟨_, q4⟩ | ⟨_, _, q4⟩
              · rw [freshD_dst hf] at q4
                exact (opA_fresh hf q4).2.1
              · exact .inl (by rw [q4])
            rcases hnew with h | h
            · rw [hno (Sg i) (by rw [e2, h, hkk])] at hc; cases hc
            · have ht := cellsAt_t hc
              rw [e2] at ht
              rw [e1] at hle
              rw [hkk] at h
              omega
        · rw [if_neg hki] at e2
          rw [hno (Sg i) e2] at hc; cases hc
    unfold wpOp
    rw [ho]
    dsimp only
    rcases g3 with ⟨w1, w2⟩ | ⟨w1, w2, w3⟩
    · rw [hwant true w1]
      simp only [if_true]
      have hstep : ∃ s1, opA P cfg call true o (o.dst.getD 0) (E i) Γ.s = some (r i, s1) ∧ (inertA o = true → s1 = Γ.s) ∧ (inertA o = false → mm ≤ i → s1 = Sg (i + 1)) ∧ (i < mm → (∀ p, freshD cfg.keep o ≠ some p → s1 p = Γ.s p) ∧ ∀ p, freshD cfg.keep o = some p → s1 p = Sg (i + 1) p) := by
        cases hin : inertA o with
        | true =>
          refine ⟨Γ.s, (opA_inert hin w2).2 Γ.s, fun _ => rfl, (fun h => by cases h), fun _ => ⟨fun _ _ => rfl, fun p hp => ?_⟩⟩
          have := fresh_noisy hp
          rw [hin] at this; cases this
        | false =>
          rcases hsi hin with ⟨h1, h2, h3⟩ | ⟨h1, h2, h3⟩
          · cases hf : freshD cfg.keep o with
            | none =>
              rcases hD.pre i o h2 ho with h | h
              · obtain ⟨_, q⟩ := opA_calm h hf w2
                exact ⟨Γ.s, q Γ.s (hmono h2 h3), (fun _ => rfl), fun _ h => by omega, fun _ => ⟨fun _ _ => rfl, fun p hp => by cases hp⟩⟩
              · rw [hf] at h; cases h
            | some d =>
              have hdd := freshD_dst hf
              rw [hdd] at w2 ⊢
              obtain ⟨_, _, q⟩ := opA_fresh hf w2
              have e1 := h3.new i o d h2 ho hf
              rw [if_neg hunf] at e1
              have e2 := (hT.half hD i (by omega) (by omega)).new i o d h2 ho hf
              simp only [Nat.lt_irrefl, if_false] at e2
              obtain ⟨s1, q1, q2, q3⟩ := q Γ.s (by rw [e1, e2])
              exact ⟨s1, q1, (fun h => by cases h), fun _ h => by omega, fun _ => ⟨fun p hp => q2 p fun e => hp (by rw [e]), fun p hp => by cases hp; exact q3⟩⟩
          · exact ⟨Sg (i + 1), by rw [h3]; exact w2, (fun h => by cases h), fun _ _ => rfl, fun h => by omega⟩
      obtain ⟨s1, hs1, hs0, hs2, hs3⟩ := hstep
      have hop := opA_ok hcall hI (a := a) hopsV hs1
      exact .inl (hop _ Q fun Γ' v hs' hI' hE' hv => hon Γ' v (by rw [hs']; exact hnext s1 hs0 hs2 hs3) hI' hE' hv)
    · rw [hwant false w1]
      simp only [Bool.false_eq_true, if_false]
      have hnf : freshD cfg.keep o = none := by
        cases hg : o.guard with
        | none => simp [wantA, hg] at w1
        | some g => unfold freshD; rw [hg]
      exact hon Γ undef (hnext Γ.s (fun _ => rfl) (fun hin h => by
        rcases hsi hin with ⟨_, h2, _⟩ | ⟨_, _, h3⟩
        · omega
        · rw [w3, h3]) fun _ => ⟨fun _ _ => rfl, fun p hp => by rw [hnf] at hp; cases hp⟩) hI (.refl _) (by rw [w2]; exact undef_tup)
end
end Go.Ab
