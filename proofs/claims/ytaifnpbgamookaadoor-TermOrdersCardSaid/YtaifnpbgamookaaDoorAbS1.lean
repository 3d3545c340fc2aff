/- The abstract run: each operation as an equation for a simplifier. No conditions. -/
import Derived.Test.YtaifnpbgamookaaDoorAbSim
namespace Go.Ab
section
variable {P : Program} {cfg : Cfg} {call : FuncId → List Arg → Option Out} {n : Nat}

@[congr] theorem den_congr {c : Code} {K : Kont} {env env' : Env} {s s' : St} (h : env = env') (h' : s = s') : den P cfg call n c K env s = den P cfg call n c K env' s' := by subst h h'; rfl
@[congr] theorem ops1_congr {q : Bool} {all : Array Oper} {l : List Oper} {K : Kont} {env env' : Env} {s s' : St} (h : env = env') (h' : s = s') : ops1 P cfg call q all l K env s = ops1 P cfg call q all l K env' s' := by subst h h'; rfl

/-- What a function's end makes of what its code ends in. -/
def finK (P : Program) (keep : Bool) (as : List Arg) (rs : Array ResultVar) : Kont := fun e env s => match e with
  | .normal => finishP P keep as rs env s
  | .ret => finishP P keep as rs env s
  | _ => none
theorem zci (keep : Bool) (as : List Arg) (rs : Array ResultVar) (env : Env) (s : St) : finK P keep as rs .normal env s = finishP P keep as rs env s := rfl
theorem zcj (keep : Bool) (as : List Arg) (rs : Array ResultVar) (env : Env) (s : St) : finK P keep as rs .ret env s = finishP P keep as rs env s := rfl
theorem finishP_t1 (P : Program) (k : Bool) (xs : List Arg) (t : Nat) (env : Env) (s : St) : finishP P k xs #[.tmp t] env s = finish k xs #[.tmp t] env s := rfl
theorem finishP_t2 (P : Program) (k : Bool) (xs : List Arg) (t u : Nat) (env : Env) (s : St) : finishP P k xs #[.tmp t, .tmp u] env s = finish k xs #[.tmp t, .tmp u] env s := rfl
/-- A result in a cell. -/
theorem finishP_c1 (P : Program) (k : Bool) (xs : List Arg) (a t : Nat) (env : Env) (s : St) : finishP P k xs #[.cell a t] env s = (loadA P t s (env a)).bind fun v => (settle s v).bind fun x => (outsA x.2 0 xs).map (Res.tree x.1, ·) := rfl
theorem finishP_c2 (P : Program) (k : Bool) (xs : List Arg) (a t u : Nat) (env : Env) (s : St) : finishP P k xs #[.cell a t, .tmp u] env s = (loadA P t s (env a)).bind fun v => (settleL s [v, env u]).bind fun x => (outsA x.2 0 xs).map (Res.tree (.tup x.1), ·) := by
  simp only [finishP, List.all_cons, List.all_nil, isTmpR, Bool.false_and, List.mapM_cons, List.mapM_nil, rvA]
  cases loadA P t s (env a) <;> rfl
theorem evalFn_go {d : Nat} {f : FuncId} {fn : Func} {c : Code} (as : List Arg) (hf : P.funcs[f]? = some fn) (hb : fn.body = some c) (hn : fn.name ≠ "runtime.NumGoroutine") (hl : as.length ≤ fn.ntmps) (hd : (fn.body.map (dstOk cfg.keep fn.ntmps)) = some true) (hp : cfg.prim f as = none := by rfl) :
    evalFn P cfg n (d + 1) f as = den P cfg (evalFn P cfg n d) n c (finK P (cfg.keep f) as fn.results) (env0 as) (st0 as) := by
  rw [hb] at hd
  simp only [Option.map_some, Option.some.injEq] at hd
  rw [evalFn]
  simp only [hp, hf, hb]
  rw [if_pos ⟨hn, hl, hd⟩]
  rfl

theorem zev (env : Env) (t : Nat) : ev env (.tmp t) = env t := rfl
theorem zew (env : Env) (k : IntKind) (z : Int) : ev env (.const (.int k z)) = .int k z := rfl
theorem zex (env : Env) (b : Bool) : ev env (.const (.bool b)) = .bool b := rfl
theorem zey (env : Env) : ev env (.const (.slice none 0 0)) = .sl [] 0 .nil := rfl
theorem zez (env : Env) (f : FuncId) : ev env (.func f) = .fn f [] := rfl
theorem zfa {α : Type} (f : Nat → α) (i j : Nat) (v : α) : upd f i v j = if j = i then v else f j := rfl
theorem zet (env : Env) (d : Nat) (v : AV) : setO env (some d) v = upd env d v := rfl
theorem zeu (env : Env) (v : AV) : setO env none v = env := rfl

variable (q : Bool) (d : Option Tmp) (ty : TypeId) (pos : String) (af : Array Edge) (g : Option (Nat × Bool)) (t : Nat) (env : Env) (s : St)
theorem zcl (x : Operand) : opA P cfg call q ⟨d, .move x, ty, pos, af, g⟩ t env s = some (ev env x, s) := rfl
theorem zcm (x : Operand) : opA P cfg call q ⟨d, .assign x, ty, pos, af, g⟩ t env s = some (ev env x, s) := rfl
def pickA (a b : AV) : AV → Option AV
  | .bool c => some (if c = true then a else b)
  | _ => none
theorem zco (a b : AV) (c : Bool) : pickA a b (.bool c) = some (if c = true then a else b) := rfl
theorem zcn (c a b : Operand) : opA P cfg call q ⟨d, .pick c a b, ty, pos, af, g⟩ t env s = (pickA (ev env a) (ev env b) (ev env c)).map (·, s) := by
  simp only [opA]
  cases ev env c <;> rfl
theorem zcq (o : BinOp) (u v : TypeId) (x y : Operand) : opA P cfg call q ⟨d, .binOp o u x y v, ty, pos, af, g⟩ t env s = (binA P o u (ev env x) (ev env y)).map (·, s) := rfl
theorem zcr (o : UnOp) (u : TypeId) (x : Operand) : opA P cfg call q ⟨d, .unOp o u x, ty, pos, af, g⟩ t env s = (unA o (ev env x)).map (·, s) := rfl
theorem zcv (u v : TypeId) (x : Operand) : opA P cfg call q ⟨d, .convert u v x, ty, pos, af, g⟩ t env s = (convA P u v s (ev env x)).map (·, s) := rfl
def extA (i : Nat) : AV → Option AV
  | .tup vs => vs[i]?
  | _ => none
theorem zdf (i : Nat) (vs : List AV) : extA i (.tup vs) = vs[i]? := rfl
theorem zde (x : Operand) (i : Nat) : opA P cfg call q ⟨d, .extract x i, ty, pos, af, g⟩ t env s = (extA i (ev env x)).map (·, s) := by
  simp only [opA]
  cases ev env x <;> rfl
theorem zct (u : TypeId) (x : Operand) : opA P cfg call q ⟨d, .load u x, ty, pos, af, g⟩ t env s = (loadA P u s (ev env x)).map (·, s) := rfl
theorem zcu (u : TypeId) (x y : Operand) : opA P cfg call q ⟨d, .store u x y, ty, pos, af, g⟩ t env s = (storeA P u s (ev env x) (ev env y)).map (AV.tup [], ·) := rfl
theorem zcs (u : TypeId) (x i : Operand) : opA P cfg call q ⟨d, .indexAddr u x i, ty, pos, af, g⟩ t env s = (indexAddrA P u s (ev env x) (ev env i)).map (·, s) := rfl
theorem zel (u : TypeId) (x i : Operand) : opA P cfg call q ⟨d, .index u x i, ty, pos, af, g⟩ t env s = (indexA P u (ev env x) (ev env i)).map (·, s) := rfl
theorem zdb (u : TypeId) (x : Operand) (lo hi mx : Option Operand) : opA P cfg call q ⟨d, .slice u x lo hi mx, ty, pos, af, g⟩ t env s = (sliceA P u s (ev env x) (lo.map (ev env)) (hi.map (ev env)) (mx.map (ev env))).map (·, s) := rfl
theorem zcw (u : TypeId) (x y : Operand) : opA P cfg call q ⟨d, .makeSlice u x y, ty, pos, af, g⟩ t env s = makeA P u t s (ev env x) (ev env y) := rfl
theorem opA_bs (u : TypeId) (len : Nat) (parts : Array (Nat × Operand)) : opA P cfg call q ⟨d, .buildSlice u len parts, ty, pos, af, g⟩ t env s = match tkOf P u with
    | .sl e => (esz P e).bind fun n => (zeroOf P e).bind fun z => if z.length = n ∧ len * n ≤ 4096 then ((fillA (fun i => some (i * n, n)) (rep len z) (parts.toList.map fun (i, x) => (i, ev env x))).map (.sl · len .tight)).map (·, s) else none
    | _ => none := rfl
theorem zcp (x : Operand) (u : TypeId) : opA P cfg call q ⟨d, .call ⟨.builtin .len, #[x], #[u]⟩, ty, pos, af, g⟩ t env s = (lenA P u s (ev env x)).map (·, s) := rfl
theorem zcx (x y : Operand) (us : Array TypeId) : opA P cfg call q ⟨d, .call ⟨.builtin .append, #[x, y], us⟩, ty, pos, af, g⟩ t env s = appendA P us t s (ev env x) (ev env y) := rfl
theorem zcy (x y : Operand) (us : Array TypeId) : opA P cfg call q ⟨d, .call ⟨.builtin .copy, #[x, y], us⟩, ty, pos, af, g⟩ t env s = copyA P us s (ev env x) (ev env y) := rfl
theorem zcz (x y : Operand) (us : Array TypeId) : opA P cfg call q ⟨d, .call ⟨.builtin .max, #[x, y], us⟩, ty, pos, af, g⟩ t env s = (foldA max2A (ev env x) [ev env y]).map (·, s) := rfl
theorem zda (x y : Operand) (us : Array TypeId) : opA P cfg call q ⟨d, .call ⟨.builtin .min, #[x, y], us⟩, ty, pos, af, g⟩ t env s = (foldA min2A (ev env x) [ev env y]).map (·, s) := rfl
theorem zdc (f : FuncId) (xs : Array Operand) (us : Array TypeId) : opA P cfg call false ⟨d, .call ⟨.value (.func f), xs, us⟩, ty, pos, af, g⟩ t env s = callA cfg call t s f (xs.toList.map (ev env) ++ []) := rfl
/-- A call in a region that draws its order. -/
def callQQ (cfg : Cfg) (call : FuncId → List Arg → Option Out) (b : Bool) (d : Nat) (s : St) (f : FuncId) (vs : List AV) : Option (AV × St) := match b with
  | true => if vs.all isTree then callA cfg call d s f vs else none
  | false => (callQ call f vs).map (·, s)
theorem zbi (dd : Nat) (s : St) (f : FuncId) (vs : List AV) : callQQ cfg call false dd s f vs = (callQ call f vs).map (·, s) := rfl
theorem zbj (dd : Nat) (s : St) (f : FuncId) (vs : List AV) : callQQ cfg call true dd s f vs = if vs.all isTree = true then callA cfg call dd s f vs else none := rfl
theorem zdd (f : FuncId) (xs : Array Operand) (us : Array TypeId) : opA P cfg call true ⟨d, .call ⟨.value (.func f), xs, us⟩, ty, pos, af, g⟩ t env s = callQQ cfg call (cfg.keep f && g.isNone && d.isSome) t s f (xs.toList.map (ev env) ++ []) := by
  have hfr : freshD cfg.keep ⟨d, .call ⟨.value (.func f), xs, us⟩, ty, pos, af, g⟩ = if (cfg.keep f && g.isNone && d.isSome) = true then d else none := by
    cases g <;> cases d <;> cases h : cfg.keep f <;> simp [freshD, h]
  have hs : (freshD cfg.keep ⟨d, .call ⟨.value (.func f), xs, us⟩, ty, pos, af, g⟩).isSome = (cfg.keep f && g.isNone && d.isSome) := by
    rw [hfr]
    cases g <;> cases d <;> cases cfg.keep f <;> rfl
  simp only [opA, ev, if_true, hs]
  cases cfg.keep f && g.isNone && d.isSome <;> rfl
end

section
variable {P : Program} {cfg : Cfg} {call : FuncId → List Arg → Option Out}
/-- A branch. -/
def condV (A B : Option Out) : AV → Option Out
  | .bool b => if b = true then A else B
  | _ => none
@[congr] theorem condV_congr {A B : Option Out} {v v' : AV} (h : v = v') : condV A B v = condV A B v' := by rw [h]
theorem zbr (A B : Option Out) (b : Bool) : condV A B (.bool b) = if b = true then A else B := rfl
theorem zbq {n : Nat} (c : Operand) (a b : Code) (K : Kont) (env : Env) (s : St) : den P cfg call n (.cond c a b) K env s = condV (den P cfg call n a K env s) (den P cfg call n b K env s) (ev env c) := by
  simp only [den]
  cases h : ev env c with
  | bool x => cases x <;> rfl
  | _ => rfl
/-- A guarded operation. -/
def guardV (w : Bool) (A B : Option Out) : AV → Option Out
  | .bool b => if b = w then A else B
  | .tup _ => B
  | _ => none
@[congr] theorem guardV_congr {w : Bool} {A B : Option Out} {v v' : AV} (h : v = v') : guardV w A B v = guardV w A B v' := by rw [h]
theorem zbu (w : Bool) (A B : Option Out) (b : Bool) : guardV w A B (.bool b) = if b = w then A else B := rfl
theorem zbv (w : Bool) (A B : Option Out) (vs : List AV) : guardV w A B (.tup vs) = B := rfl
def guardD (all : Array Oper) (j : Nat) (env : Env) : AV := match (all[j]?).bind (·.dst) with
  | some t => env t
  | none => .undef
theorem zbt (q : Bool) (all : Array Oper) (d : Option Tmp) (op : Op) (ty : TypeId) (pos : String) (af : Array Edge) (j : Nat) (w : Bool) (r : List Oper) (K : Kont) (env : Env) (s : St) :
    ops1 P cfg call q all (⟨d, op, ty, pos, af, some (j, w)⟩ :: r) K env s = guardV w (opK P cfg call q all d r K env (opA P cfg call q ⟨d, op, ty, pos, af, some (j, w)⟩ (d.getD 0) env s)) (ops1 P cfg call q all r K (setO env d (.tup [])) s) (guardD all j env) := by
  simp only [ops1, opsA, wantA, opK, guardD]
  cases (all[j]?).bind (·.dst) with
  | none => rfl
  | some t =>
    simp only
    cases env t with
    | bool b =>
      simp only [guardV]
      cases b <;> cases w <;> simp <;> (try rfl)
      all_goals
        cases opA P cfg call q _ (d.getD 0) env s with
        | none => rfl
        | some x => cases x; rfl
    | tup vs => simp [guardV]
    | _ => simp [guardV]
theorem zbw (d : Nat) (op : Op) (ty : TypeId) (pos : String) (af : Array Edge) (g : Option (Nat × Bool)) (l : List Oper) (env : Env) : guardD ⟨⟨some d, op, ty, pos, af, g⟩ :: l⟩ 0 env = env d := rfl
theorem zbx (o : Oper) (l : List Oper) (j : Nat) (env : Env) : guardD ⟨o :: l⟩ (j + 1) env = guardD ⟨l⟩ j env := by
  simp [guardD]
end
/-! ### What a region that draws its order fills anew -/
def killM (m : Option Nat) (s : St) : St := match m with
  | some d => killD s d
  | none => s
theorem zaf (s : St) : killM none s = s := rfl
theorem zag (d : Nat) (s : St) : killM (some d) s = upd s d ⟨(s d).t, .dead⟩ := rfl
theorem zad (k : FuncId → Bool) (s : St) : killF k [] s = s := rfl
theorem zae (k : FuncId → Bool) (o : Oper) (r : List Oper) (s : St) : killF k (o :: r) s = killF k r (killM (freshD k o) s) := rfl
theorem kill_app (k : FuncId → Bool) (o : Oper) (l m : List Oper) (s : St) : killF k (List.append (o :: l) m) s = killF k (o :: List.append l m) s := rfl
theorem kill_app0 (k : FuncId → Bool) (m : List Oper) (s : St) : killF k (List.append [] m) s = killF k m s := rfl
section
variable {k : FuncId → Bool} {d : Option Tmp} {ty : TypeId} {pos : String} {af : Array Edge} {g : Option (Nat × Bool)}
theorem zah (x : Operand) : freshD k ⟨d, .move x, ty, pos, af, g⟩ = none := by cases g <;> rfl
theorem zai (x : Operand) : freshD k ⟨d, .assign x, ty, pos, af, g⟩ = none := by cases g <;> rfl
theorem zaj (a b c : Operand) : freshD k ⟨d, .pick a b c, ty, pos, af, g⟩ = none := by cases g <;> rfl
theorem zak (o : BinOp) (u v : TypeId) (x y : Operand) : freshD k ⟨d, .binOp o u x y v, ty, pos, af, g⟩ = none := by cases g <;> rfl
theorem zal (o : UnOp) (u : TypeId) (x : Operand) : freshD k ⟨d, .unOp o u x, ty, pos, af, g⟩ = none := by cases g <;> rfl
theorem zam (u v : TypeId) (x : Operand) : freshD k ⟨d, .convert u v x, ty, pos, af, g⟩ = none := by cases g <;> rfl
theorem zan (x : Operand) (i : Nat) : freshD k ⟨d, .extract x i, ty, pos, af, g⟩ = none := by cases g <;> rfl
theorem zao (u : TypeId) (x : Operand) : freshD k ⟨d, .load u x, ty, pos, af, g⟩ = none := by cases g <;> rfl
theorem zap (u : TypeId) (x y : Operand) : freshD k ⟨d, .store u x y, ty, pos, af, g⟩ = none := by cases g <;> rfl
theorem zaq (u : TypeId) (x : Operand) (i : Nat) : freshD k ⟨d, .fieldAddr u x i, ty, pos, af, g⟩ = none := by cases g <;> rfl
theorem zar (u : TypeId) (x : Operand) (i : Nat) : freshD k ⟨d, .field u x i, ty, pos, af, g⟩ = none := by cases g <;> rfl
theorem zas (u : TypeId) (x i : Operand) : freshD k ⟨d, .indexAddr u x i, ty, pos, af, g⟩ = none := by cases g <;> rfl
theorem zat (u : TypeId) (x i : Operand) : freshD k ⟨d, .index u x i, ty, pos, af, g⟩ = none := by cases g <;> rfl
theorem zau (u : TypeId) (x : Operand) (lo hi mx : Option Operand) : freshD k ⟨d, .slice u x lo hi mx, ty, pos, af, g⟩ = none := by cases g <;> rfl
theorem zav (u : TypeId) (parts : Array (Nat × Operand)) : freshD k ⟨d, .build u parts, ty, pos, af, g⟩ = none := by cases g <;> rfl
theorem zaw (u : TypeId) (len : Nat) (parts : Array (Nat × Operand)) : freshD k ⟨d, .buildSlice u len parts, ty, pos, af, g⟩ = none := by cases g <;> rfl
theorem zax (u : TypeId) (x : Operand) : freshD k ⟨d, .box u x, ty, pos, af, g⟩ = none := by cases g <;> rfl
theorem zay (x : Operand) : freshD k ⟨d, .nilCheck x, ty, pos, af, g⟩ = none := by cases g <;> rfl
theorem zaz (b : Builtin) (xs : Array Operand) (us : Array TypeId) : freshD k ⟨d, .call ⟨.builtin b, xs, us⟩, ty, pos, af, g⟩ = none := by cases g <;> rfl
theorem zba (x : Tmp) (xs : Array Operand) (us : Array TypeId) : freshD k ⟨d, .call ⟨.value (.tmp x), xs, us⟩, ty, pos, af, g⟩ = none := by cases g <;> rfl
theorem zbb (f : FuncId) (xs : Array Operand) (us : Array TypeId) : freshD k ⟨d, .call ⟨.value (.func f), xs, us⟩, ty, pos, af, none⟩ = if k f = true then d else none := rfl
theorem zbc (f : FuncId) (xs : Array Operand) (us : Array TypeId) (x : Nat × Bool) : freshD k ⟨d, .call ⟨.value (.func f), xs, us⟩, ty, pos, af, some x⟩ = none := rfl
theorem zbd (u : TypeId) : freshD k ⟨d, .alloc u, ty, pos, af, none⟩ = d := rfl
theorem zbe (u : TypeId) (x : Nat × Bool) : freshD k ⟨d, .alloc u, ty, pos, af, some x⟩ = none := rfl
theorem zbf (u : TypeId) (x y : Operand) : freshD k ⟨d, .makeSlice u x y, ty, pos, af, none⟩ = d := rfl
theorem zbg (u : TypeId) (x y : Operand) (z : Nat × Bool) : freshD k ⟨d, .makeSlice u x y, ty, pos, af, some z⟩ = none := rfl
end
end Go.Ab
