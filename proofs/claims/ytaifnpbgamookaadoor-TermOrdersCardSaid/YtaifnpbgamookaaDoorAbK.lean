/- One operation of the code goes on to what the abstract one tells. No conditions. -/
import Derived.Test.YtaifnpbgamookaaDoorAbF
namespace Go.Ab
section
variable {P : Program} {cfg : Cfg} {Γ : G} {call : FuncId → List Arg → Option Out}

/-- An operation carried out goes on in this store with a value of this tree. -/
def OpTo (P : Program) (o : Oper) (a : Act) (Γ : G) (s' : St) (r : AV) : Prop :=
  ∀ (next : Act → World → Prop) (Q : Exit → Act → World → Prop), (∀ Γ' v, Γ'.s = s' → Inv Γ' → Ext Γ Γ' → V Γ' r v → next (a.put o.dst v) Γ'.w) → o.wp P a Γ.w next Q

theorem OpTo.sem {o : Oper} {a : Act} {m : Sem Value} {s' : St} {r : AV} (hex : execOp a.eval o = (do pure (.value (← m)))) (h : SemOk P m Γ s' r) : OpTo P o a Γ s' r := by
  obtain ⟨v, Γ', h1, h2, h3, h4, h5⟩ := h
  intro next Q hn
  unfold Oper.wp
  rw [hex, Sem.run_bind, h1]
  exact hn Γ' v h2 h3 h4 h5
theorem OpTo.pure {o : Oper} {a : Act} {m : Sem Value} {r : AV} (hI : Inv Γ) (hex : execOp a.eval o = (do pure (.value (← m)))) (h : PureOk P m Γ r) : OpTo P o a Γ Γ.s r := .sem hex (h.sem hI)
theorem OpTo.val {o : Oper} {a : Act} {v : Value} {r : AV} (hI : Inv Γ) (hex : (execOp a.eval o).run P Γ.w = .ok (.value v) Γ.w) (h : V Γ r v) : OpTo P o a Γ Γ.s r := fun next Q hn => by
  unfold Oper.wp
  rw [hex]
  exact hn Γ v rfl hI (.refl _) h

theorem V_ofV (v : Value) : V Γ (ofV v) v := by
  refine V_cell ?_
  unfold ofV
  split
  · split
    · rename_i cs hc
      exact ⟨cs.toList, by simp, VL_ofV1 _ hc⟩
    · simp [V0]
  · exact V0_ofV1 _

theorem V_ev {env : Env} {a : Act} (h : ∀ t, V Γ (env t) (a.tmps.getD t undef)) (x : Operand) : V Γ (ev env x) (a.eval x) := by
  cases x with
  | tmp t => exact h t
  | const v => exact V_ofV v
  | global g => exact V_cell (x := .undef) (by simp only [V0])
  | func f => exact V_cell ⟨[], rfl, VT.nil⟩

/-- The operands, as trees and as values. -/
def OpsOk (Γ : G) (env : Env) (a : Act) (o : Oper) : Prop := ∀ x ∈ o.op.operands, V Γ (ev env x) (a.eval x)

theorem VA_map {env : Env} {a : Act} : ∀ (l : List Operand), (∀ x ∈ l, V Γ (ev env x) (a.eval x)) → VA Γ (l.map (ev env)) (l.map a.eval)
  | [], _ => .nil
  | x :: l, h => .cons (h x (List.mem_cons_self ..)) (VA_map l fun y hy => h y (List.mem_cons_of_mem _ hy))
theorem VP_map {env : Env} {a : Act} : ∀ (l : List (Nat × Operand)), (∀ x ∈ l.map (·.2), V Γ (ev env x) (a.eval x)) → VP Γ (l.map fun (i, x) => (i, ev env x)) (l.map fun (i, x) => (i, a.eval x))
  | [], _ => .nil
  | (i, x) :: l, h => .cons (h x (by simp)) (VP_map l fun y hy => h y (by simp only [List.map_cons]; exact List.mem_cons_of_mem _ hy))
theorem VO_map {env : Env} {a : Act} {x : Option Operand} (h : ∀ y ∈ x, V Γ (ev env y) (a.eval y)) : VO Γ (x.map (ev env)) (x.map a.eval) := by
  cases x with
  | none => trivial
  | some x => exact h x rfl
theorem VA.append {xs ys : List AV} {vs us : List Value} (h : VA Γ xs vs) (k : VA Γ ys us) : VA Γ (xs ++ ys) (vs ++ us) := by
  induction h with
  | nil => exact k
  | cons h _ ih => exact .cons h ih
theorem VA.ofVT : ∀ {xs : List AV} {vs : List Value}, VT Γ.S Γ.w xs vs → VA Γ xs vs
  | [], vs, h => by simp [VT] at h; subst h; exact .nil
  | x :: xs, vs, h => by
    simp only [VT] at h
    obtain ⟨v, r, rfl, h0, hr⟩ := h
    exact .cons (V_cell h0) (VA.ofVT hr)

theorem map_some {α β : Type} {f : α → β} {x : Option α} {y : β} (h : x.map f = some y) : ∃ a, x = some a ∧ f a = y := Option.map_eq_some_iff.1 h

/-- A call through a function's value. -/
theorem callOp {o : Oper} {a : Act} {c : Call} {fo : Operand} (ho : o.op = .call c) (hc : c.callee = .value fo) {f : FuncId} {caps : List Value} (hf : a.eval fo = .func (.func f) #[] caps.toArray) {s' : St} {r : AV}
    (h : (∃ fn c, P.funcs[f]? = some fn ∧ fn.name ≠ "runtime.NumGoroutine" ∧ fn.body = some c) ∧ Calls P f (c.args.toList.map a.eval ++ caps).toArray Γ.w (CallTo Γ s' r)) : OpTo P o a Γ s' r := by
  obtain ⟨⟨fn, cd, h1, h2, h3⟩, h4⟩ := h
  intro next Q hn
  have hrun : (execOp a.eval o).run P Γ.w = .ok (.enter f (c.args.toList.map a.eval ++ caps).toArray) Γ.w := by
    have hne : (fn.name == "runtime.NumGoroutine") = false := by simpa using h2
    have hargs : c.args.map a.eval ++ caps.toArray = (c.args.toList.map a.eval ++ caps).toArray := by
      apply Array.ext'; simp
    simp only [execOp, ho, resolve, hc, Sem.run_bind, Deferred.ofValue, hf, Sem.run_pure, Result.andThen_ok, invoke, callFunc, run_program, h1, hne, h3, Option.isNone_some, Bool.false_eq_true, if_false, Array.empty_append, hargs]
  unfold Oper.wp
  rw [hrun]
  simp only [Oper.upon]
  refine h4.mono fun e w' ⟨v, Γ', he, hw, hs, hI, hE, hv⟩ => ?_
  subst he; subst hw
  exact hn Γ' v hs hI hE hv
theorem builtinOp {o : Oper} {a : Act} {c : Call} {b : Builtin} {m : Sem Value} (ho : o.op = .call c) (hc : c.callee = .builtin b) (hb : builtin b c.argTypes o.type (c.args.map fun | .const _ => true | _ => false) (c.args.map a.eval) = (do pure (.value (← m)))) :
    execOp a.eval o = (do pure (.value (← m))) := by
  simp only [execOp, ho, resolve, hc]
  exact hb

theorem opA_ok (hcall : FnOk P call) (hI : Inv Γ) {q : Bool} {o : Oper} {d : Nat} {env : Env} {a : Act} (hev : OpsOk Γ env a o) {r : AV} {s' : St} (h : opA P cfg call q o d env Γ.s = some (r, s')) : OpTo P o a Γ s' r := by
  unfold OpsOk at hev
  unfold opA at h
  dsimp only at h
  split at h
  · -- move
    rename_i x hop
    cases h
    rw [hop] at hev
    exact .val hI (by simp only [execOp, hop]; rfl) (hev x (by simp [Op.operands]))
  · rename_i x hop
    cases h
    rw [hop] at hev
    exact .val hI (by simp only [execOp, hop]; rfl) (hev x (by simp [Op.operands]))
  · -- pick
    rename_i c x y hop
    rw [hop] at hev
    have h1 := hev c (by simp [Op.operands])
    have h2 := hev x (by simp [Op.operands])
    have h3 := hev y (by simp [Op.operands])
    split at h
    · rename_i b hb
      rw [hb, V_bool] at h1
      cases h
      refine .val (v := if b then a.eval x else a.eval y) hI ?_ (by cases b; exact h3; exact h2)
      simp only [execOp, hop, h1, asBool, Sem.run_bind, Sem.run_pure, Result.andThen_ok]
    · cases h
  · -- binOp
    rename_i op t x y yt hop
    rw [hop] at hev
    obtain ⟨r', hr, e⟩ := map_some h
    cases e
    exact .pure hI (by simp only [execOp, hop]) (binA_ok hr (hev x (by simp [Op.operands])) (hev y (by simp [Op.operands])) x y)
  · -- unOp
    rename_i op t x hop
    rw [hop] at hev
    obtain ⟨r', hr, e⟩ := map_some h
    cases e
    exact .pure hI (by simp only [execOp, hop]) (unA_ok hr (hev x (by simp [Op.operands])))
  · -- convert
    rename_i src dst x hop
    rw [hop] at hev
    obtain ⟨r', hr, e⟩ := map_some h
    cases e
    exact .sem (by simp only [execOp, hop]) (convA_ok hI hr (hev x (by simp [Op.operands])))
  · -- extract
    rename_i t i hop
    rw [hop] at hev
    have h1 := hev t (by simp [Op.operands])
    split at h
    · rename_i vs hvs
      obtain ⟨r', hr, e⟩ := map_some h
      cases e
      rw [hvs] at h1
      obtain ⟨us, hu, hvt⟩ := (V_tree rfl).1 h1
      obtain ⟨u, hu1, hu2⟩ := ((VT_iff _ _).1 hvt).2 i _ hr
      refine .pure hI (m := Instr.extract (a.eval t) i) (by simp only [execOp, hop]) ⟨u, ?_, V_cell hu2⟩
      rw [hu]
      simp [Instr.extract, hu1]
    · cases h
  · -- load
    rename_i t x hop
    rw [hop] at hev
    obtain ⟨r', hr, e⟩ := map_some h
    cases e
    exact .pure hI (by simp only [execOp, hop]) (loadA_ok hI hr (hev x (by simp [Op.operands])))
  · -- store
    rename_i t x y hop
    rw [hop] at hev
    obtain ⟨s2, hr, e⟩ := map_some h
    cases e
    obtain ⟨Γ', h1, h2, h3, h4⟩ := storeA_ok hI hr (hev x (by simp [Op.operands])) (hev y (by simp [Op.operands]))
    intro next Q hn
    unfold Oper.wp
    have : (execOp a.eval o).run P Γ.w = .ok .skip Γ'.w := by simp only [execOp, hop, Sem.run_bind, h1, Result.andThen_ok, Sem.run_pure]
    rw [this]
    exact hn Γ' undef h2 h3 h4 (V_cell ⟨[], rfl, VT.nil⟩)
  · -- fieldAddr
    rename_i t x i hop
    rw [hop] at hev
    obtain ⟨r', hr, e⟩ := map_some h
    cases e
    exact .pure hI (by simp only [execOp, hop]) (fieldAddrA_ok hr (hev x (by simp [Op.operands])))
  · rename_i t x i hop
    rw [hop] at hev
    obtain ⟨r', hr, e⟩ := map_some h
    cases e
    exact .pure hI (by simp only [execOp, hop]) (fieldA_ok hr (hev x (by simp [Op.operands])))
  · rename_i t x i hop
    rw [hop] at hev
    obtain ⟨r', hr, e⟩ := map_some h
    cases e
    exact .pure hI (by simp only [execOp, hop]) (indexAddrA_ok hr (hev x (by simp [Op.operands])) (hev i (by simp [Op.operands])))
  · rename_i t x i hop
    rw [hop] at hev
    obtain ⟨r', hr, e⟩ := map_some h
    cases e
    exact .pure hI (by simp only [execOp, hop]) (indexA_ok hr (hev x (by simp [Op.operands])) (hev i (by simp [Op.operands])))
  · -- slice
    rename_i t x lo hi mx hop
    rw [hop] at hev
    obtain ⟨r', hr, e⟩ := map_some h
    cases e
    refine .pure hI (by simp only [execOp, hop]) (sliceA_ok hr (hev x (by simp [Op.operands])) (VO_map fun y hy => hev y ?_) (VO_map fun y hy => hev y ?_) (VO_map fun y hy => hev y ?_)) <;>
      (cases hy; simp [Op.operands])
  · -- nilCheck
    rename_i x hop
    rw [hop] at hev
    have h1 := hev x (by simp [Op.operands])
    split at h
    · rename_i p t off hx
      split at h
      · rename_i hl
        cases h
        rw [hx] at h1
        obtain ⟨xs, hxs⟩ := live_iff hl
        have h2 := h1.2 xs hxs
        exact .val hI (by simp only [execOp, hop, h2]; rfl) (by rw [← h2]; exact h1)
      · cases h
    · rename_i xs hx
      cases h
      rw [hx] at h1
      obtain ⟨b, o', h2, _⟩ := (V_tree rfl).1 h1
      exact .val hI (by simp only [execOp, hop, h2]; rfl) (by rw [← h2]; exact h1)
    · cases h
  · -- build
    rename_i t parts hop
    rw [hop] at hev
    simp only [Option.bind_eq_some_iff] at h
    obtain ⟨z, hz, h⟩ := h
    have hvp : VP Γ (parts.toList.map fun (i, x) => (i, ev env x)) (parts.map fun (i, x) => (i, a.eval x)).toList := by
      rw [Array.toList_map]
      exact VP_map _ fun x hx => hev x (by simpa [Op.operands] using hx)
    split at h
    · simp only [Option.bind_eq_some_iff] at h
      obtain ⟨pl, hpl, h⟩ := h
      obtain ⟨r', hr, e⟩ := map_some h
      cases e
      obtain ⟨r'', hr', rfl⟩ := map_some hr
      exact .pure hI (by simp only [execOp, hop]) (buildA_st hz hpl hvp hr')
    · rename_i m e ht
      simp only [Option.bind_eq_some_iff] at h
      obtain ⟨n, hn, h⟩ := h
      obtain ⟨r', hr, e⟩ := map_some h
      cases e
      obtain ⟨r'', hr', rfl⟩ := map_some hr
      exact .pure hI (by simp only [execOp, hop]) (buildA_arr hz ht hn hvp hr')
    · cases h
  · -- buildSlice
    rename_i t len parts hop
    rw [hop] at hev
    have hvp : VP Γ (parts.toList.map fun (i, x) => (i, ev env x)) (parts.map fun (i, x) => (i, a.eval x)).toList := by
      rw [Array.toList_map]
      exact VP_map _ fun x hx => hev x (by simpa [Op.operands] using hx)
    split at h
    · rename_i e ht
      simp only [Option.bind_eq_some_iff] at h
      obtain ⟨n, hn, z, hz, h⟩ := h
      split at h
      · rename_i hc
        obtain ⟨r', hr, e⟩ := map_some h
        cases e
        obtain ⟨r'', hr', rfl⟩ := map_some hr
        exact .sem (by simp only [execOp, hop]) (buildSlice_ok hI ht hn hz hc.1 hc.2 hvp hr')
      · cases h
    · cases h
  · -- makeSlice
    rename_i t l c hop
    rw [hop] at hev
    exact .sem (by simp only [execOp, hop]) (makeA_ok hI h (hev l (by simp [Op.operands])) (hev c (by simp [Op.operands])))
  · -- alloc
    rename_i t hop
    obtain ⟨z, hz, e⟩ := map_some h
    cases e
    exact .sem (by simp only [execOp, hop]) (allocA_ok hI hz)
  · -- box
    rename_i t x hop
    rw [hop] at hev
    simp only [Option.bind_eq_some_iff] at h
    obtain ⟨⟨v, s1⟩, hs, h⟩ := h
    obtain ⟨xs, hxs, e⟩ := map_some h
    cases e
    exact .sem (m := Instr.box t (a.eval x)) (by simp only [execOp, hop]) (boxA_ok hI hs hxs (hev x (by simp [Op.operands])))
  · -- makeInterface
    rename_i t x hop
    rw [hop] at hev
    simp only [Option.bind_eq_some_iff] at h
    obtain ⟨v, hv, h⟩ := h
    have h0 := settled_ok hv (hev x (by simp [Op.operands]))
    split at h
    · cases h
    · cases h
    · rename_i hn1 hn2
      cases h
      refine .pure hI (m := Instr.makeInterface t (a.eval x)) (by simp only [execOp, hop]) ⟨.iface t (a.eval x), ?_, V_cell ⟨_, rfl, h0⟩⟩
      have hu : ∃ dd, P.underlying t = some dd ∧ ∀ ms, dd ≠ .interface ms := by
        unfold tkOf at hn1 hn2
        cases hd : P.underlying t with
        | none => rw [hd] at hn2; exact absurd rfl hn2
        | some dd =>
          refine ⟨dd, rfl, fun ms e => ?_⟩
          subst e
          rw [hd] at hn1
          exact absurd rfl hn1
      obtain ⟨dd, hu1, hu2⟩ := hu
      simp only [Instr.makeInterface, Sem.run_bind, run_underlying hu1, Result.andThen_ok]
      cases dd <;> first | rfl | exact absurd rfl (hu2 _)
  · -- call
    rename_i c hop
    rw [hop] at hev
    have hargs : ∀ x ∈ c.args.toList, V Γ (ev env x) (a.eval x) := fun x hx => hev x (by
      simp only [Op.operands, Call.operands, Array.mem_append]; exact .inr (Array.mem_def.2 hx))
    split at h
    · rename_i hb
      split at h
      · rename_i x t hx ht
        obtain ⟨r', hr, e⟩ := map_some h
        cases e
        refine .pure hI (builtinOp (m := Builtin.len_ c.argTypes o.type (c.args.map a.eval)) hop hb rfl) ?_
        have : c.args.map a.eval = #[a.eval x] := by apply Array.ext'; simp [hx]
        rw [this]
        exact lenA_ok hr (hargs x (by rw [hx]; simp)) _ _ ht
      · cases h
    · rename_i hb
      split at h
      · rename_i x y hx
        refine .sem (builtinOp (m := Builtin.append_ c.argTypes o.type (c.args.map a.eval)) hop hb rfl) ?_
        have : c.args.map a.eval = #[a.eval x, a.eval y] := by apply Array.ext'; simp [hx]
        rw [this]
        exact appendA_ok hI h (hargs x (by rw [hx]; simp)) (hargs y (by rw [hx]; simp)) _
      · cases h
    · rename_i hb
      split at h
      · rename_i x y hx
        refine .sem (builtinOp (m := Builtin.copy_ c.argTypes o.type (c.args.map a.eval)) hop hb rfl) ?_
        have : c.args.map a.eval = #[a.eval x, a.eval y] := by apply Array.ext'; simp [hx]
        rw [this]
        exact copyA_ok hI h (hargs x (by rw [hx]; simp)) (hargs y (by rw [hx]; simp)) _
      · cases h
    · rename_i hb
      split at h
      · rename_i x l hx
        obtain ⟨r', hr, e⟩ := map_some h
        cases e
        refine .pure hI (builtinOp (m := Builtin.max_ c.argTypes o.type (c.args.map a.eval)) hop hb rfl) ?_
        have hl : (c.args.map a.eval).toList = a.eval x :: l.map a.eval := by simp [hx]
        unfold Builtin.max_
        rw [hl]
        exact foldA_ok (fun _ _ _ _ _ h1 h2 h3 => max2A_ok h1 h2 h3) _ _ _ _ _ (VA_map l fun y hy => hargs y (by rw [hx]; exact List.mem_cons_of_mem _ hy)) hr (hargs x (by rw [hx]; simp))
      · cases h
    · rename_i hb
      split at h
      · rename_i x l hx
        obtain ⟨r', hr, e⟩ := map_some h
        cases e
        refine .pure hI (builtinOp (m := Builtin.min_ c.argTypes o.type (c.args.map a.eval)) hop hb rfl) ?_
        have hl : (c.args.map a.eval).toList = a.eval x :: l.map a.eval := by simp [hx]
        unfold Builtin.min_
        rw [hl]
        exact foldA_ok (fun _ _ _ _ _ h1 h2 h3 => min2A_ok h1 h2 h3) _ _ _ _ _ (VA_map l fun y hy => hargs y (by rw [hx]; exact List.mem_cons_of_mem _ hy)) hr (hargs x (by rw [hx]; simp))
      · cases h
    · rename_i fo hb
      have hfo := hev fo (by simp [Op.operands, Call.operands, hb])
      split at h
      · rename_i f caps hf
        rw [hf] at hfo
        obtain ⟨cs, hcs, hvt⟩ := (V_tree rfl).1 hfo
        have hva : VA Γ (c.args.toList.map (ev env) ++ caps) (c.args.toList.map a.eval ++ cs) := (VA_map _ hargs).append (VA.ofVT hvt)
        split at h
        · split at h
          · split at h
            · exact callOp hop hb hcs (callA_ok hcall hI h hva)
            · cases h
          · obtain ⟨r', hr, e⟩ := map_some h
            cases e
            exact callOp hop hb hcs (callQ_ok hcall hI hr hva)
        · exact callOp hop hb hcs (callA_ok hcall hI h hva)
      · cases h
    · cases h
  · cases h
end
end Go.Ab
