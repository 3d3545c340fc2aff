/- A region of operations goes on to what the abstract one tells, in whatever order. Condition: the program follows the mixed orders. -/
import Derived.Test.YtaifnpbgamookaaDoorAbK
import Derived.Orders
namespace Go.Ab
section
variable {P : Program} {cfg : Cfg} {call : FuncId → List Arg → Option Out}

/-- The temporaries, as trees and as values. -/
structure EnvOk (Γ : G) (env : Env) (a : Act) (m : Nat) : Prop where
  defers : a.defers = []
  size : a.tmps.size = m
  val : ∀ t, V Γ (env t) (a.tmps.getD t undef)

theorem put_tmps (a : Act) (d : Option Tmp) (v : Value) : (a.put d v).defers = a.defers ∧ (a.put d v).tmps.size = a.tmps.size := by
  cases d <;> simp [Act.put]
theorem put_get (a : Act) (d : Tmp) (v : Value) (t : Tmp) (hd : d < a.tmps.size) : (a.put (some d) v).tmps.getD t undef = if t = d then v else a.tmps.getD t undef := by
  simp only [Act.put, Array.getD_eq_getD_getElem?, Array.getElem?_setIfInBounds]
  by_cases h : t = d
  · subst h; simp [hd]
  · rw [if_neg h, if_neg (Ne.symm h)]

theorem EnvOk.put {Γ Γ' : G} {env : Env} {a : Act} {m : Nat} (h : EnvOk Γ env a m) (hE : Ext Γ Γ') {d : Option Tmp} (hd : ∀ x, d = some x → x < m) {r : AV} {v : Value} (hv : V Γ' r v) : EnvOk Γ' (setO env d r) (a.put d v) m := by
  obtain ⟨h1, h2⟩ := put_tmps a d v
  refine ⟨h1.trans h.defers, h2.trans h.size, fun t => ?_⟩
  cases d with
  | none => exact V.ext hE (h.val t)
  | some d =>
    rw [put_get a d v t (by rw [h.size]; exact hd d rfl)]
    simp only [setO]
    by_cases ht : t = d
    · subst ht; simp only [upd_same, if_true]; exact hv
    · rw [upd_ne _ _ ht, if_neg ht]; exact V.ext hE (h.val t)

theorem undef_tup {Γ : G} : V Γ (.tup []) undef := V_cell ⟨[], rfl, VT.nil⟩

/-- Whether an operation is carried out. -/
theorem wantA_ok {Γ : G} {ops : Array Oper} {o : Oper} {env : Env} {a : Act} {b : Bool} (h : wantA ops o env = some b)
    (hv : ∀ j w d, o.guard = some (j, w) → (ops[j]?).bind (·.dst) = some d → V Γ (env d) (a.tmps.getD d undef)) : Region.wanted o (yielded ops a.tmps) = b := by
  unfold wantA at h
  unfold Region.wanted
  split at h
  · rename_i hg; rw [hg]; cases h; rfl
  · rename_i j w hg
    rw [hg]
    dsimp only
    split at h
    · cases h
    · rename_i d hd
      have hV := hv j w d hg hd
      unfold yielded
      rw [hd]
      simp only [Option.bind_some]
      rw [Array.getD_eq_getD_getElem?] at hV
      split at h
      · rename_i c hc
        rw [hc, V_bool] at hV
        cases h
        cases hq : a.tmps[d]? with
        | none => rw [hq] at hV; simp [undef] at hV
        | some x =>
          rw [hq] at hV
          have hx : x = .bool c := hV
          subst hx
          dsimp only
          cases c <;> cases w <;> rfl
      · rename_i vs hc
        rw [hc] at hV
        cases h
        obtain ⟨us, hu, _⟩ := (V_tree rfl).1 hV
        cases hq : a.tmps[d]? with
        | none => rfl
        | some x =>
          rw [hq] at hu
          have hx : x = .tuple us.toArray := hu
          subst hx
          rfl
      · cases h

/-- The operations one behind the other. -/
theorem opsA_ok (hcall : FnOk P call) {q : Bool} {ops : Array Oper} {Q : Exit → Act → World → Prop} {m : Nat} : ∀ (l : List Oper) (env : Env) (Γ : G) (a : Act) (env' : Env) (s' : St),
    (∀ o ∈ l, ∀ d, o.dst = some d → d < m) → opsA P cfg call q ops l env Γ.s = some (env', s') → Inv Γ → EnvOk Γ env a m →
    (∀ Γ' a', Γ'.s = s' → Inv Γ' → Ext Γ Γ' → EnvOk Γ' env' a' m → Q .normal a' Γ'.w) → wpList P ops Q l a Γ.w
  | [], env, Γ, a, env', s', _, h, hI, he, hQ => by
    simp only [opsA, Option.some.injEq, Prod.mk.injEq] at h
    obtain ⟨rfl, rfl⟩ := h
    exact hQ Γ a rfl hI (.refl _) he
  | o :: l, env, Γ, a, env', s', hd, h, hI, he, hQ => by
    have hd1 : ∀ x, o.dst = some x → x < m := hd o (List.mem_cons_self ..)
    have hd2 : ∀ o' ∈ l, ∀ d, o'.dst = some d → d < m := fun o' ho' => hd o' (List.mem_cons_of_mem _ ho')
    have hwant : ∀ b, wantA ops o env = some b → Region.wanted o (yielded ops a.tmps) = b := fun b hb => wantA_ok hb fun _ _ d _ _ => he.val d
    simp only [opsA] at h
    refine wpList_step fun K hK => ?_
    split at h
    · rename_i hw
      rw [hwant true hw]
      simp only [if_true]
      simp only [Option.bind_eq_some_iff] at h
      obtain ⟨⟨r, s1⟩, hop, h⟩ := h
      have hop' := opA_ok hcall hI (a := a) (fun x _ => V_ev he.val x) hop
      refine hop' K Q fun Γ' v hs' hI' hE' hv => hK _ _ ?_
      rw [← hs'] at h
      exact opsA_ok hcall l _ Γ' _ env' s' hd2 h hI' (he.put hE' hd1 hv) fun Γ'' a'' h1 h2 h3 h4 => hQ Γ'' a'' h1 h2 (hE'.trans h3) h4
    · rename_i hw
      rw [hwant false hw]
      simp only [Bool.false_eq_true, if_false]
      refine hK _ _ ?_
      exact opsA_ok hcall l _ Γ _ env' s' hd2 h hI (he.put (.refl _) hd1 undef_tup) hQ
    · cases h
end
end Go.Ab
