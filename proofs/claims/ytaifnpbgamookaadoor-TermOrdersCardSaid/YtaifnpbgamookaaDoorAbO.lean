/- Each operation that only computes, run in a world, yields what the abstract one tells. No conditions. -/
import Derived.Test.YtaifnpbgamookaaDoorAbI
import Derived.Laws.Strings
namespace Go.Ab
section
variable {P : Program} {Γ : G}

/-- Run in the world, it yields a value of this tree, and leaves the world alone. -/
def PureOk (P : Program) (m : Sem Value) (Γ : G) (r : AV) : Prop := ∃ v, m.run P Γ.w = .ok v Γ.w ∧ V Γ r v
/-- Run in the world, it yields a value of this tree, and goes on to this store. -/
def SemOk (P : Program) (m : Sem Value) (Γ : G) (s' : St) (r : AV) : Prop := ∃ v Γ', m.run P Γ.w = .ok v Γ'.w ∧ Γ'.s = s' ∧ Inv Γ' ∧ Ext Γ Γ' ∧ V Γ' r v
theorem PureOk.sem {m : Sem Value} {r : AV} (h : PureOk P m Γ r) (hI : Inv Γ) : SemOk P m Γ Γ.s r := let ⟨v, h1, h2⟩ := h; ⟨v, Γ, h1, rfl, hI, .refl _, h2⟩

/-! ### What is known of the types -/
theorem tk_int {t : TypeId} {k : IntKind} (h : tkOf P t = .int k) : P.underlying t = some (.int k) := by
  unfold tkOf at h; split at h <;> first | (cases h; assumption) | cases h
theorem tk_bool {t : TypeId} (h : tkOf P t = .bool) : P.underlying t = some .bool := by
  unfold tkOf at h; split at h <;> first | (cases h; assumption) | cases h
theorem tk_str {t : TypeId} (h : tkOf P t = .str) : P.underlying t = some .string := by
  unfold tkOf at h; split at h <;> first | (cases h; assumption) | cases h
theorem tk_sl {t e : TypeId} (h : tkOf P t = .sl e) : P.underlying t = some (.slice e) := by
  unfold tkOf at h; split at h <;> first | (cases h; assumption) | cases h
theorem tk_arr {t e : TypeId} {n : Nat} (h : tkOf P t = .arr n e) : P.underlying t = some (.array n e) := by
  unfold tkOf at h; split at h <;> first | (cases h; assumption) | cases h
theorem tk_st {t : TypeId} (h : tkOf P t = .st) : ∃ fs, P.underlying t = some (.struct fs) := by
  unfold tkOf at h; split at h <;> first | (cases h; exact ⟨_, by assumption⟩) | cases h
theorem field_of {t i ft o : Nat} (h : fieldOf P t i = some (ft, o)) : ∃ fs f, P.underlying t = some (.struct fs) ∧ fs[i]? = some f ∧ f.type = ft ∧ f.offset = o := by
  unfold fieldOf at h
  split at h
  · rename_i fs hu
    cases hf : fs[i]? with
    | none => rw [hf] at h; cases h
    | some f => rw [hf] at h; simp at h; exact ⟨fs, f, hu, hf, h.1, h.2⟩
  · cases h

theorem info_of_underlying {t : TypeId} {d : TypeDesc} (h : P.underlying t = some d) : ∃ i, P.info? t = some i := by
  unfold Program.underlying at h
  split at h
  · rename_i h1; exact ⟨_, h1⟩
  · rename_i i _ h1; exact ⟨i, h1⟩
  · cases h
theorem run_sizeOf {t : TypeId} {i : TypeInfo} (h : P.info? t = some i) (w : World) : (sizeOf t).run P w = .ok (szOf P t) w := by
  simp [sizeOf, typeInfo, h, szOf]
theorem run_isAgg {t : TypeId} {d : TypeDesc} (h : P.underlying t = some d) (w : World) : (isAgg t).run P w = .ok (aggOf P t) w := by
  unfold isAgg aggOf
  rw [Sem.run_bind, run_underlying h w]
  simp only [Result.andThen_ok, h]
  cases d <;> rfl
theorem agg_underlying {t : TypeId} (h : aggOf P t = true) : ∃ d, P.underlying t = some d := by
  unfold aggOf at h
  split at h
  · exact ⟨_, by assumption⟩
  · exact ⟨_, by assumption⟩
  · cases h

/-! ### Numbers, texts -/
theorem V_int {k : IntKind} {n : Int} {v : Value} : V Γ (.int k n) v ↔ v = .int k n := by simp [V, V0]
theorem V_bool {b : Bool} {v : Value} : V Γ (.bool b) v ↔ v = .bool b := by simp [V, V0]
theorem V_str {b : List UInt8} {v : Value} : V Γ (.str b) v ↔ v = .string ⟨b.toArray⟩ := by simp [V, V0]

/-- The value of a small tree. -/
def vOf : AV → Value
  | .int k n => .int k n
  | .bool b => .bool b
  | .str s => .string ⟨s.toArray⟩
  | _ => undef
theorem PureOk.mk {m : Sem Value} {r : AV} (h : m.run P Γ.w = .ok (vOf r) Γ.w) (hv : V Γ r (vOf r)) : PureOk P m Γ r := ⟨_, h, hv⟩
theorem intA_ok {op : BinOp} {k : IntKind} {a b : Int} {r : AV} (h : intA op k a b = some r) (hs : op ≠ .shl ∧ op ≠ .shr) (t : TypeId) :
    PureOk P (binOp op t (.int k a) (.int k b)) Γ r := by
  cases op
  case shl => exact absurd rfl hs.1
  case shr => exact absurd rfl hs.2
  case quo =>
    simp only [intA] at h
    split at h
    · cases h
    · rename_i hb
      cases h
      exact .mk (by simp [binOp, Op.intDiv, hb, vOf]) (by simp [V, V0, vOf])
  case rem =>
    simp only [intA] at h
    split at h
    · cases h
    · rename_i hb
      cases h
      exact .mk (by simp [binOp, Op.intDiv, hb, vOf]) (by simp [V, V0, vOf])
  all_goals
    simp only [intA, Option.some.injEq] at h
    subst h
    exact .mk (by simp [binOp, Op.intArith, Op.intBits, Op.intCmp, vOf]) (by simp [V, V0, vOf])
theorem shA_ok {op : BinOp} {k k' : IntKind} {a b : Int} {r : AV} (h : shA op k a b = some r) (t : TypeId) :
    PureOk P (binOp op t (.int k a) (.int k' b)) Γ r := by
  unfold shA at h
  split at h
  · cases h
  · rename_i hb
    cases op <;> simp only [Option.some.injEq, reduceCtorEq] at h <;> subst h <;> exact .mk (by simp [binOp, Op.shift, hb, vOf]) (by simp [V, V0, vOf])
theorem strA_ok {op : BinOp} {a b : List UInt8} {r : AV} (h : strA op a b = some r) (t : TypeId) :
    PureOk P (binOp op t (.string ⟨a.toArray⟩) (.string ⟨b.toArray⟩)) Γ r := by
  have e : ∀ l : List UInt8, (⟨l.toArray⟩ : ByteArray).toList = l := fun l => by rw [ByteArray.toList_eq]
  have h0 : binOp op t (.string ⟨a.toArray⟩) (.string ⟨b.toArray⟩) = Op.stringOp op ⟨a.toArray⟩ ⟨b.toArray⟩ := by cases op <;> rfl
  rw [h0]
  cases op
  case add =>
    simp only [strA] at h
    split at h
    · rename_i hb
      cases h
      refine .mk ?_ (by simp [V, V0, vOf])
      have e1 : (⟨a.toArray⟩ : ByteArray).size = a.length := by simp [ByteArray.size]
      have e2 : (⟨b.toArray⟩ : ByteArray).size = b.length := by simp [ByteArray.size]
      have e3 : IntKind.max .i64 = 9223372036854775807 := by decide
      have h1 : ¬ (IntKind.max .i64 < (((⟨a.toArray⟩ : ByteArray).size + (⟨b.toArray⟩ : ByteArray).size : Nat) : Int)) := by
        rw [e1, e2, e3]; omega
      have h2 : (⟨a.toArray⟩ : ByteArray) ++ ⟨b.toArray⟩ = ⟨(a ++ b).toArray⟩ := by
        apply ByteArray.ext; simp
      simp only [Op.stringOp, gt_iff_lt]
      rw [if_neg h1, h2]; rfl
    · cases h
  all_goals first
    | (simp only [strA, reduceCtorEq] at h; done)
    | (simp only [strA, Option.some.injEq] at h; subst h; exact .mk (by simp only [Op.stringOp, e, vOf]; rfl) (by simp [V, V0, vOf]))

theorem eqGuard_none (op : BinOp) (t : TypeId) (x y : Operand) (a b : Value) (w : World) (h1 : a ≠ .nilIface) (h2 : ∀ cs, a ≠ .agg cs) : (eqGuard op t x y a b).run P w = .ok () w := by
  cases op
  case eql => cases a <;> first | exact absurd rfl h1 | exact absurd rfl (h2 _) | rfl
  case neq => cases a <;> first | exact absurd rfl h1 | exact absurd rfl (h2 _) | rfl
  all_goals rfl

theorem run_equalIn_bool {t : TypeId} {a b : Bool} (ht : P.underlying t = some .bool) (d : Nat) (w : World) : (Op.equalIn (d + 1) t (.bool a) (.bool b)).run P w = .ok (a == b) w := by
  simp [Op.equalIn, run_underlying ht]
theorem run_eql_bool {t : TypeId} {a b : Bool} (ht : P.underlying t = some .bool) (w : World) : (binOp .eql t (.bool a) (.bool b)).run P w = .ok (.bool (a == b)) w := by
  have h : (Op.equal t (.bool a) (.bool b)).run P w = .ok (a == b) w := run_equalIn_bool ht 9999 w
  show (Op.equal t (.bool a) (.bool b) >>= fun x => pure (Value.bool x)).run P w = _
  rw [Sem.run_bind, h]; rfl
theorem run_neq_bool {t : TypeId} {a b : Bool} (ht : P.underlying t = some .bool) (w : World) : (binOp .neq t (.bool a) (.bool b)).run P w = .ok (.bool (!(a == b))) w := by
  have h : (Op.equal t (.bool a) (.bool b)).run P w = .ok (a == b) w := run_equalIn_bool ht 9999 w
  show (Op.equal t (.bool a) (.bool b) >>= fun x => pure (Value.bool (!x))).run P w = _
  rw [Sem.run_bind, h]; rfl
theorem tk_ptr {t : TypeId} (h : tkOf P t = .ptr) : ∃ e, P.underlying t = some (.pointer e) := by
  unfold tkOf at h
  split at h <;> cases h
  exact ⟨_, by assumption⟩
theorem tk_sl' {t e : TypeId} (h : tkOf P t = .sl e) : P.underlying t = some (.slice e) := by
  unfold tkOf at h
  split at h <;> cases h
  assumption
theorem eqA_some {op : BinOp} {b : Option Bool} {r : AV} (h : eqA op b = some r) : ∃ c, b = some c ∧ ((op = .eql ∧ r = .bool c) ∨ (op = .neq ∧ r = .bool (!c))) := by
  unfold eqA at h
  cases b with
  | none => cases op <;> simp at h
  | some c => cases op <;> simp at h <;> subst h <;> exact ⟨c, rfl, by simp⟩
theorem nil_sl {x : List AV} {len : Nat} {g : Grip} {b : Bool} (h : nilA (.sl x len g) = some b) {vx : Value} (hx : V Γ (.sl x len g) vx) : ∃ a l c, vx = .slice a l c ∧ a.isNone = b := by
  have key : ∀ g', g'.isTok = false → nilA (.sl x len g') = some b → V0 Γ.S Γ.w (.sl x len g') vx → ∃ a l c, vx = .slice a l c ∧ a.isNone = b := by
    intro g' _ h hx0
    simp only [V0] at hx0
    obtain ⟨a, cap, rfl, _, _, ⟨_, hn⟩, hc⟩ := hx0
    refine ⟨a, _, _, rfl, ?_⟩
    cases g' with
    | nil => rw [hn rfl]; simpa [nilA] using h
    | _ =>
      simp only [nilA] at h
      split at h
      · cases h
        rcases hc with ⟨_, h0, _⟩ | ⟨_, _, rfl, _⟩
        · omega
        · rfl
      · cases h
  cases g with
  | tok p t => exact key .loose rfl h hx.1
  | tight => exact key _ rfl h (V.to0 hx rfl)
  | loose => exact key _ rfl h (V.to0 hx rfl)
  | nil => exact key _ rfl h (V.to0 hx rfl)
theorem run_eq_of {op : BinOp} {t : TypeId} {x y : Value} {c : Bool} {r : AV} (hb : ∀ op, binOp op t x y = match op with | .eql => (do pure (.bool (← Op.equal t x y))) | .neq => (do pure (.bool (!(← Op.equal t x y)))) | _ => binOp op t x y)
    (he : ∀ w, (Op.equal t x y).run P w = .ok c w) (h : (op = .eql ∧ r = .bool c) ∨ (op = .neq ∧ r = .bool (!c))) : PureOk P (binOp op t x y) Γ r := by
  rcases h with ⟨rfl, rfl⟩ | ⟨rfl, rfl⟩
  · refine .mk ?_ (by simp [V, V0, vOf])
    rw [hb]
    show (Op.equal t x y >>= fun x => pure (Value.bool x)).run P Γ.w = _
    rw [Sem.run_bind, he]; rfl
  · refine .mk ?_ (by simp [V, V0, vOf])
    rw [hb]
    show (Op.equal t x y >>= fun x => pure (Value.bool (!x))).run P Γ.w = _
    rw [Sem.run_bind, he]; rfl
theorem run_eq_sl {t e : TypeId} {a : Option Addr} {l c l' c' : Nat} (he : P.underlying t = some (.slice e)) (d : Nat) (w : World) : (Op.equalIn (d + 1) t (.slice a l c) (.slice none l' c')).run P w = .ok a.isNone w := by
  cases a <;> simp [Op.equalIn, run_underlying he]
theorem run_eq_ptr {t e : TypeId} {a : Option Addr} (he : P.underlying t = some (.pointer e)) (d : Nat) (w : World) : (Op.equalIn (d + 1) t (.pointer a) (.pointer none)).run P w = .ok a.isNone w := by
  cases a <;> simp [Op.equalIn, run_underlying he]
theorem eq_nil {op : BinOp} {t e : TypeId} {a : Option Addr} {l c l' c' : Nat} {b : Bool} {r : AV} (ht : tkOf P t = .sl e) (h : (op = .eql ∧ r = .bool b) ∨ (op = .neq ∧ r = .bool (!b))) (hb : a.isNone = b) :
    PureOk P (binOp op t (.slice a l c) (.slice none l' c')) Γ r := by
  refine run_eq_of (fun op => by cases op <;> rfl) (fun w => ?_) h
  subst hb
  exact run_eq_sl (tk_sl' ht) 9999 w
theorem eq_nilp {op : BinOp} {t : TypeId} {a : Option Addr} {b : Bool} {r : AV} (ht : tkOf P t = .ptr) (h : (op = .eql ∧ r = .bool b) ∨ (op = .neq ∧ r = .bool (!b))) (hb : a.isNone = b) :
    PureOk P (binOp op t (.pointer a) (.pointer none)) Γ r := by
  obtain ⟨e, he⟩ := tk_ptr ht
  rcases h with ⟨rfl, rfl⟩ | ⟨rfl, rfl⟩
  all_goals
    have hq : (Op.equal t (.pointer a) (.pointer none)).run P Γ.w = .ok b Γ.w := by
      subst hb
      exact run_eq_ptr he 9999 _
    refine .mk ?_ (by simp [V, V0, vOf])
  · show (Op.equal t _ _ >>= fun x => pure (Value.bool x)).run P Γ.w = _
    rw [Sem.run_bind, hq]; rfl
  · show (Op.equal t _ _ >>= fun x => pure (Value.bool (!x))).run P Γ.w = _
    rw [Sem.run_bind, hq]; rfl
theorem binA_ok {op : BinOp} {t : TypeId} {x y : AV} {r : AV} (h : binA P op t x y = some r) {vx vy : Value} (hx : V Γ x vx) (hy : V Γ y vy) (ox oy : Operand) :
    PureOk P (do eqGuard op t ox oy vx vy; binOp op t vx vy) Γ r := by
  have key : PureOk P (binOp op t vx vy) Γ r ∧ vx ≠ .nilIface ∧ (∀ cs, vx ≠ .agg cs) := by
    unfold binA at h
    split at h
    · rw [V_int] at hx hy; subst hx; subst hy
      refine ⟨?_, by simp, by simp⟩
      split at h
      · exact shA_ok h t
      · exact shA_ok h t
      · rename_i hn1 hn2
        split at h
        · rename_i e; subst e; exact intA_ok h ⟨hn1, hn2⟩ t
        · cases h
    · rw [V_str] at hx hy; subst hx; subst hy
      exact ⟨strA_ok h t, by simp, by simp⟩
    · rw [V_bool] at hx hy; subst hx; subst hy
      refine ⟨?_, by simp, by simp⟩
      split at h
      · rename_i ht; cases h
        exact .mk (run_eql_bool (tk_bool ht) _) (by simp [V, V0, vOf])
      · rename_i ht; cases h
        exact .mk (run_neq_bool (tk_bool ht) _) (by simp [V, V0, vOf])
      · cases h
    · have hy0 := V.to0 hy rfl
      simp only [V0] at hy0
      obtain ⟨a, cap, rfl, _, _, ⟨_, hn⟩, hc⟩ := hy0
      obtain rfl := hn trivial
      split at h
      · rename_i ht
        obtain ⟨b, hb, h⟩ := eqA_some h
        obtain ⟨a', l', c', rfl, hs⟩ := nil_sl hb hx
        exact ⟨eq_nil ht h hs, by simp, by simp⟩
      · cases h
    · have hy0 := V.to0 hy rfl
      simp only [V0] at hy0
      subst hy0
      split at h
      · rename_i ht
        obtain ⟨b, hb, h⟩ := eqA_some h
        cases hb
        have hx0 := V.to0 hx rfl
        simp only [V0] at hx0
        obtain ⟨bb, o, rfl, _⟩ := hx0
        exact ⟨eq_nilp ht h rfl, by simp, by simp⟩
      · rename_i ht
        obtain ⟨b, hb, h⟩ := eqA_some h
        cases hb
        have hx0 := V.to0 hx rfl
        simp only [V0] at hx0
        subst hx0
        exact ⟨eq_nilp ht h rfl, by simp, by simp⟩
      · cases h
    · cases h
  obtain ⟨⟨v, h1, h2⟩, h3, h4⟩ := key
  exact ⟨v, by rw [Sem.run_bind, eqGuard_none _ _ _ _ _ _ _ h3 h4]; exact h1, h2⟩

theorem unA_ok {op : UnOp} {x r : AV} (h : unA op x = some r) {vx : Value} (hx : V Γ x vx) : PureOk P (Op.unary op vx) Γ r := by
  unfold unA at h
  split at h
  · rw [V_int] at hx; subst hx; cases h; exact .mk (by simp [Op.unary, Op.intArith, vOf]) (by simp [V, V0, vOf])
  · rw [V_int] at hx; subst hx; cases h; exact .mk (by simp [Op.unary, Op.intBits, vOf]) (by simp [V, V0, vOf])
  · rw [V_bool] at hx; subst hx; cases h; exact .mk (by simp [Op.unary, vOf]) (by simp [V, V0, vOf])
  · cases h

theorem max2A_ok {x y r : AV} (h : max2A x y = some r) {vx vy : Value} (hx : V Γ x vx) (hy : V Γ y vy) : PureOk P (Builtin.max2 vx vy) Γ r := by
  unfold max2A at h
  split at h
  · rw [V_int] at hx hy; subst hx; subst hy; cases h; exact .mk (by simp [Builtin.max2, vOf]) (by simp [V, V0, vOf])
  · cases h
theorem min2A_ok {x y r : AV} (h : min2A x y = some r) {vx vy : Value} (hx : V Γ x vx) (hy : V Γ y vy) : PureOk P (Builtin.min2 vx vy) Γ r := by
  unfold min2A at h
  split at h
  · rw [V_int] at hx hy; subst hx; subst hy; cases h; exact .mk (by simp [Builtin.min2, vOf]) (by simp [V, V0, vOf])
  · cases h
/-- Values of trees, one by one. -/
inductive VA (Γ : G) : List AV → List Value → Prop
  | nil : VA Γ [] []
  | cons {x : AV} {v : Value} {xs : List AV} {vs : List Value} : V Γ x v → VA Γ xs vs → VA Γ (x :: xs) (v :: vs)
theorem foldA_ok {f : AV → AV → Option AV} {g : Value → Value → Sem Value} (hf : ∀ x y r vx vy, f x y = some r → V Γ x vx → V Γ y vy → PureOk P (g vx vy) Γ r) :
    ∀ (ys : List AV) (vs : List Value) (x r : AV) (v : Value), VA Γ ys vs → foldA f x ys = some r → V Γ x v → PureOk P (vs.foldlM g v) Γ r
  | [], _, x, r, v, hv, h, hx => by
    cases hv; simp [foldA] at h; subst h; exact ⟨v, rfl, hx⟩
  | y :: ys, _, x, r, v, hv, h, hx => by
    cases hv with
    | cons hy hys =>
      simp only [foldA, Option.bind_eq_some_iff] at h
      obtain ⟨z, h1, h2⟩ := h
      obtain ⟨u, h3, h4⟩ := hf _ _ _ _ _ h1 hx hy
      obtain ⟨u', h5, h6⟩ := foldA_ok hf ys _ z r u hys h2 h4
      exact ⟨u', by simp only [List.foldlM_cons, Sem.run_bind, h3, Result.andThen_ok]; exact h5, h6⟩
end
end Go.Ab
