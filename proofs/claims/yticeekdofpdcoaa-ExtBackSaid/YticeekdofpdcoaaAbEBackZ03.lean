/- Several texts put together: AbS1, AbRow, AbPrim, AbLiP, AbSb, AbePr, AbeL1, AbM1, AbM2, AbeL2, AbeL3, AbeL4, AbM3, AbeL5, AbeL6, AbM4, AbeL7, AbM5, AbeL8, AbM6, AbeL9, AbM7, AbeL10, AbM8, AbeLg, AbMn1, AbeA1, AbFe. Conditions: as each part says. -/
import Derived.Test.YticeekdofpdcoaaAbEBackZ02
import Derived.Below
import Derived.Test.YticeekdofpdcoaaProg
import Derived.KernelRfl
import Derived.LoopNIn
import Derived.TacticsIn
import Derived.OwnWalkIn
import Derived.RangeFuncFrom
import Derived.RangeFuncLeaves
/- The abstract run: each operation as an equation for a simplifier. No conditions. -/
namespace Go.Ab
section
variable {P : Program} {cfg : Cfg} {call : FuncId → List Arg → Option Out} {n : Nat}

@[congr] theorem den_congr {c : Code} {K : Kont} {env env' : Env} {s s' : St} (h : env = env') (h' : s = s') : den P cfg call n c K env s = den P cfg call n c K env' s' := by subst h h'; rfl
@[congr] theorem ops1_congr {q : Bool} {all : Array Oper} {l : List Oper} {K : Kont} {env env' : Env} {s s' : St} (h : env = env') (h' : s = s') : ops1 P cfg call q all l K env s = ops1 P cfg call q all l K env' s' := by subst h h'; rfl

def finK (P : Program) (keep : Bool) (as1 : List Arg) (rs : Array ResultVar) : Kont := fun e env s => match e with
  | .normal => finishP P keep as1 rs env s
  | .ret => finishP P keep as1 rs env s
  | _ => none
theorem zcr (keep : Bool) (as1 : List Arg) (rs : Array ResultVar) (env : Env) (s : St) : finK P keep as1 rs .normal env s = finishP P keep as1 rs env s := rfl
theorem zcs (keep : Bool) (as1 : List Arg) (rs : Array ResultVar) (env : Env) (s : St) : finK P keep as1 rs .ret env s = finishP P keep as1 rs env s := rfl
theorem finishP_t1 (P : Program) (k : Bool) (xs : List Arg) (t : Nat) (env : Env) (s : St) : finishP P k xs #[.tmp t] env s = finish k xs #[.tmp t] env s := rfl
theorem finishP_t2 (P : Program) (k : Bool) (xs : List Arg) (t u : Nat) (env : Env) (s : St) : finishP P k xs #[.tmp t, .tmp u] env s = finish k xs #[.tmp t, .tmp u] env s := rfl
theorem finishP_c1 (P : Program) (k : Bool) (xs : List Arg) (a t : Nat) (env : Env) (s : St) : finishP P k xs #[.cell a t] env s = (loadA P t s (env a)).bind fun v => (settle s v).bind fun x => (outsA x.2 0 xs).map (Res.tree x.1, ·) := rfl
theorem finishP_c2 (P : Program) (k : Bool) (xs : List Arg) (a t u : Nat) (env : Env) (s : St) : finishP P k xs #[.cell a t, .tmp u] env s = (loadA P t s (env a)).bind fun v => (settleL s [v, env u]).bind fun x => (outsA x.2 0 xs).map (Res.tree (.tup x.1), ·) := by
  simp only [finishP, List.all_cons, List.all_nil, isTmpR, Bool.false_and, List.mapM_cons, List.mapM_nil, rvA]
  cases loadA P t s (env a) <;> rfl
theorem prune_id {keep : FuncId → Bool} {m : Nat} : ∀ {c : Code}, dstOk keep m c = true → prune keep c = c
  | .region i ops draw, h => by
    simp only [dstOk, Bool.and_eq_true, Bool.or_eq_true, Bool.not_eq_true'] at h
    cases draw with
    | false => rfl
    | true => simp only [prune]; rw [if_pos (h.2.resolve_left (by decide))]
  | .seq a b, h => by
    simp only [dstOk, Bool.and_eq_true] at h
    simp only [prune, prune_id h.1, prune_id h.2]
  | .cond t a b, h => by
    simp only [dstOk, Bool.and_eq_true] at h
    simp only [prune, prune_id h.1, prune_id h.2]
  | .block i a, h => by simp only [dstOk] at h; simp only [prune, prune_id h]
  | .loop a, h => by simp only [dstOk] at h; simp only [prune, prune_id h]
  | .scope a, h => by simp only [dstOk] at h; simp only [prune, prune_id h]
  | .skip, _ => rfl
  | .label _, _ => rfl
  | .exit _, _ => rfl
  | .ret, _ => rfl
  | .rangeFunc .., _ => rfl
  | .goto _, h => by cases h
  | .refuse _, _ => rfl
theorem dstOk_P {keep : FuncId → Bool} {m : Nat} : ∀ {c : Code}, dstOk keep m c = true → dstOkP keep m c = true
  | .region i ops draw, h => by
    simp only [dstOk, dstOkP, Bool.and_eq_true, Bool.or_eq_true] at h ⊢
    exact ⟨h.1, .inl (.inl h.2)⟩
  | .seq a b, h => by
    simp only [dstOk, Bool.and_eq_true] at h
    simp only [dstOkP, dstOk_P h.1, dstOk_P h.2, Bool.and_self]
  | .cond t a b, h => by
    simp only [dstOk, Bool.and_eq_true] at h
    simp only [dstOkP, dstOk_P h.1, dstOk_P h.2, Bool.and_self]
  | .block i a, h => by simp only [dstOk] at h; simp only [dstOkP, dstOk_P h]
  | .loop a, h => by simp only [dstOk] at h; simp only [dstOkP, dstOk_P h]
  | .scope a, h => by simp only [dstOk] at h; simp only [dstOkP, dstOk_P h]
  | .skip, _ => rfl
  | .label _, _ => rfl
  | .exit _, _ => rfl
  | .ret, _ => rfl
  | .rangeFunc .., _ => rfl
  | .goto _, _ => rfl
  | .refuse _, _ => rfl
theorem prune_L {keep : FuncId → Bool} {i : Nat} {ops : Array Oper} {c : Code} (h : (!drawOk keep ops && drawOkL keep ops) = true) (hc : looseC keep ops = c) : prune keep (.region i ops true) = .seq (.region i ops true) c := by
  simp only [Bool.and_eq_true, Bool.not_eq_true'] at h
  subst hc
  simp only [prune, h.1, h.2, if_true, Bool.false_eq_true, if_false]
theorem prune_S {keep : FuncId → Bool} {i : Nat} {ops : Array Oper} {c : Code} (h : (!drawOk keep ops && (!drawOkL keep ops && drawOkS keep ops)) = true) (hc : storeC ops = c) : prune keep (.region i ops true) = .seq (.region i ops true) c := by
  simp only [Bool.and_eq_true, Bool.not_eq_true'] at h
  subst hc
  simp only [prune, h.1, h.2.1, h.2.2, if_true, Bool.false_eq_true, if_false]
theorem prune_seq (keep : FuncId → Bool) (a b : Code) : prune keep (.seq a b) = .seq (prune keep a) (prune keep b) := rfl
theorem prune_cond (keep : FuncId → Bool) (t : Operand) (a b : Code) : prune keep (.cond t a b) = .cond t (prune keep a) (prune keep b) := rfl
theorem prune_block (keep : FuncId → Bool) (i : Nat) (a : Code) : prune keep (.block i a) = .block i (prune keep a) := rfl
theorem prune_loop (keep : FuncId → Bool) (a : Code) : prune keep (.loop a) = .loop (prune keep a) := rfl
theorem prune_scope (keep : FuncId → Bool) (a : Code) : prune keep (.scope a) = .scope (prune keep a) := rfl
theorem prune_text (keep : FuncId → Bool) (i : Nat) (ops : Array Oper) : prune keep (.region i ops false) = .region i ops false := rfl
theorem prune_skip (keep : FuncId → Bool) : prune keep .skip = .skip := rfl
theorem prune_ret (keep : FuncId → Bool) : prune keep .ret = .ret := rfl
theorem prune_exit (keep : FuncId → Bool) (i : Nat) : prune keep (.exit i) = .exit i := rfl
theorem evalFn_goP {d : Nat} {f : FuncId} {fn : Func} {c : Code} (as1 : List Arg) (hf : P.funcs[f]? = some fn) (hb : fn.body = some c) (hn : fn.name ≠ "runtime.NumGoroutine") (hl : as1.length ≤ fn.ntmps) (hd : (fn.body.map fun c => dstOkP cfg.keep fn.ntmps (prune cfg.keep c)) = some true) (hp : cfg.prim f as1 = none := by rfl) (ho : cfg.ownAt fn.name = false := by rfl) :
    evalFn P cfg n (d + 1) f as1 = den P cfg (evalFn P cfg n d) n (prune cfg.keep c) (finK P (cfg.keep f) as1 fn.results) (env0 as1) (st0 as1) := by
  rw [hb] at hd
  simp only [Option.map_some, Option.some.injEq] at hd
  rw [evalFn]
  simp only [hp, hf, hb, ho]
  rw [if_pos ⟨hn, hl, hd⟩]
  rfl
theorem evalFn_go {d : Nat} {f : FuncId} {fn : Func} {c : Code} (as1 : List Arg) (hf : P.funcs[f]? = some fn) (hb : fn.body = some c) (hn : fn.name ≠ "runtime.NumGoroutine") (hl : as1.length ≤ fn.ntmps) (hd : (fn.body.map (dstOk cfg.keep fn.ntmps)) = some true) (hp : cfg.prim f as1 = none := by rfl) (ho : cfg.ownAt fn.name = false := by rfl) :
    evalFn P cfg n (d + 1) f as1 = den P cfg (evalFn P cfg n d) n c (finK P (cfg.keep f) as1 fn.results) (env0 as1) (st0 as1) := by
  rw [hb] at hd
  simp only [Option.map_some, Option.some.injEq] at hd
  rw [evalFn]
  simp only [hp, hf, hb, ho]
  rw [prune_id hd, if_pos ⟨hn, hl, dstOk_P hd⟩]
  rfl

theorem zff (env : Env) (t : Nat) : ev env (.tmp t) = env t := rfl
theorem zfg (env : Env) (k : IntKind) (z : Int) : ev env (.const (.int k z)) = .int k z := rfl
theorem zfh (env : Env) (b : Bool) : ev env (.const (.bool b)) = .bool b := rfl
theorem zfi (env : Env) : ev env (.const (.slice none 0 0)) = .sl [] 0 .nil := rfl
theorem zfj (env : Env) (f : FuncId) : ev env (.func f) = .fn f [] := rfl
theorem zfk {α : Type} (f : Nat → α) (i j : Nat) (v : α) : upd f i v j = if j = i then v else f j := rfl
theorem zfd (env : Env) (d : Nat) (v : AV) : setO env (some d) v = upd env d v := rfl
theorem zfe (env : Env) (v : AV) : setO env none v = env := rfl

variable (q : Bool) (d : Option Tmp) (ty : TypeId) (pos : String) (af : Array Edge) (g : Option (Nat × Bool)) (t : Nat) (env : Env) (s : St)
theorem zcu (x : Operand) : opA P cfg call q ⟨d, .move x, ty, pos, af, g⟩ t env s = some (ev env x, s) := rfl
theorem zcv (x : Operand) : opA P cfg call q ⟨d, .assign x, ty, pos, af, g⟩ t env s = some (ev env x, s) := rfl
def pickA (a b : AV) : AV → Option AV
  | .bool c => some (if c = true then a else b)
  | _ => none
theorem zcx (a b : AV) (c : Bool) : pickA a b (.bool c) = some (if c = true then a else b) := rfl
theorem zcw (c a b : Operand) : opA P cfg call q ⟨d, .pick c a b, ty, pos, af, g⟩ t env s = (pickA (ev env a) (ev env b) (ev env c)).map (·, s) := by
  simp only [opA]
  cases ev env c <;> rfl
theorem zcz (o : BinOp) (u v : TypeId) (x y : Operand) : opA P cfg call q ⟨d, .binOp o u x y v, ty, pos, af, g⟩ t env s = (binA P o u (ev env x) (ev env y)).map (·, s) := rfl
theorem zda (o : UnOp) (u : TypeId) (x : Operand) : opA P cfg call q ⟨d, .unOp o u x, ty, pos, af, g⟩ t env s = (unA o (ev env x)).map (·, s) := rfl
theorem zde (u v : TypeId) (x : Operand) : opA P cfg call q ⟨d, .convert u v x, ty, pos, af, g⟩ t env s = (convA P u v s (ev env x)).map (·, s) := rfl
def extA (i : Nat) : AV → Option AV
  | .tup vs => vs[i]?
  | .tupo p t off len e rest => match i with | 0 => some (.own p t off len e) | i + 1 => rest[i]?
  | _ => none
theorem zdv (p t off len e : Nat) (rest : List AV) : extA 0 (.tupo p t off len e rest) = some (.own p t off len e) := rfl
theorem zdw (i p t off len e : Nat) (rest : List AV) : extA (i + 1) (.tupo p t off len e rest) = rest[i]? := rfl
theorem zdu (i : Nat) (vs : List AV) : extA i (.tup vs) = vs[i]? := rfl
theorem zdt (x : Operand) (i : Nat) : opA P cfg call q ⟨d, .extract x i, ty, pos, af, g⟩ t env s = (extA i (ev env x)).map (·, s) := by
  simp only [opA]
  cases ev env x <;> rfl
theorem zdc (u : TypeId) (x : Operand) : opA P cfg call q ⟨d, .load u x, ty, pos, af, g⟩ t env s = (loadA P u s (ev env x)).map (·, s) := rfl
theorem zdd (u : TypeId) (x y : Operand) : opA P cfg call q ⟨d, .store u x y, ty, pos, af, g⟩ t env s = if cfg.ownAt ("=" ++ pos) = true then (storeH P u s (ev env x) (ev env y)).map (AV.tup [], ·) else (storeA P u s (ev env x) (ev env y)).map (AV.tup [], ·) := rfl
theorem zdb (u : TypeId) (x i : Operand) : opA P cfg call q ⟨d, .indexAddr u x i, ty, pos, af, g⟩ t env s = (indexAddrA P u s (ev env x) (ev env i)).map (·, s) := rfl
theorem zfc (u : TypeId) (x i : Operand) : opA P cfg call q ⟨d, .index u x i, ty, pos, af, g⟩ t env s = (indexA P u (ev env x) (ev env i)).map (·, s) := rfl
theorem zdn (u : TypeId) (x : Operand) (lo hi mx : Option Operand) : opA P cfg call q ⟨d, .slice u x lo hi mx, ty, pos, af, g⟩ t env s = (sliceA P u s (quietV q (ev env x)) (lo.map (ev env)) (hi.map (ev env)) (mx.map (ev env))).map (·, s) := rfl
theorem zdo (v : AV) : quietV false v = v := rfl
theorem zdp (q : Bool) (xs : List AV) (n : Nat) (g : Grip) : quietV q (.sl xs n g) = .sl xs n g := by cases q <;> rfl
theorem zdq (q : Bool) (b : List UInt8) : quietV q (.str b) = .str b := by cases q <;> rfl
theorem zdf (u : TypeId) (x y : Operand) : opA P cfg call q ⟨d, .makeSlice u x y, ty, pos, af, g⟩ t env s = makeA P u t s (ev env x) (ev env y) := rfl
theorem opA_bs (u : TypeId) (len : Nat) (parts : Array (Nat × Operand)) : opA P cfg call q ⟨d, .buildSlice u len parts, ty, pos, af, g⟩ t env s = match tkOf P u with
    | .sl e => (esz P e).bind fun n => (zeroOf P e).bind fun z => if z.length = n ∧ len * n ≤ 4096 then ((fillA (fun i => some (i * n, n)) (rep len z) (parts.toList.map fun (i, x) => (i, ev env x))).map (.sl · len .tight)).map (·, s) else none
    | _ => none := rfl
theorem zcy (x : Operand) (u : TypeId) : opA P cfg call q ⟨d, .call ⟨.builtin .len, #[x], #[u]⟩, ty, pos, af, g⟩ t env s = (lenA P u s (ev env x)).map (·, s) := rfl
theorem zdg (x y : Operand) (us : Array TypeId) : opA P cfg call false ⟨d, .call ⟨.builtin .append, #[x, y], us⟩, ty, pos, af, g⟩ t env s = if cfg.ownAt pos = true then appendO P us t s (ev env x) (ev env y) else if cfg.ownAt ("^" ++ pos) = true then appendW P us t s (ev env x) (ev env y) else appendA P us t s (ev env x) (ev env y) := rfl
theorem zdh (x : Tmp) (y : Operand) (us : Array TypeId) : opA P cfg call true ⟨d, .call ⟨.builtin .append, #[.tmp x, y], us⟩, ty, pos, af, g⟩ t env s = appendA P us t s (env x) (ev env y) := by
  cases g <;> rfl
theorem zdi (y : Operand) (us : Array TypeId) (d : Tmp) : opA P cfg call true ⟨some d, .call ⟨.builtin .append, #[.const (.slice none 0 0), y], us⟩, ty, pos, af, none⟩ t env s = if isTree (ev env y) = true then appendA P us t s (.sl [] 0 .nil) (ev env y) else none := by
  show (if (!isTree (ev env y)) = true then none else appendA P us t s (.sl [] 0 .nil) (ev env y)) = _
  cases isTree (ev env y) <;> rfl
theorem zdj (y : Operand) (us : Array TypeId) (x : Nat × Bool) : opA P cfg call true ⟨d, .call ⟨.builtin .append, #[.const (.slice none 0 0), y], us⟩, ty, pos, af, some x⟩ t env s = appendA P us t s (.sl [] 0 .nil) (ev env y) := rfl
theorem zdk (x y : Operand) (us : Array TypeId) : opA P cfg call q ⟨d, .call ⟨.builtin .copy, #[x, y], us⟩, ty, pos, af, g⟩ t env s = copyA P us s (ev env x) (ev env y) := rfl
theorem zdl (x y : Operand) (us : Array TypeId) : opA P cfg call q ⟨d, .call ⟨.builtin .max, #[x, y], us⟩, ty, pos, af, g⟩ t env s = (foldA max2A (ev env x) [ev env y]).map (·, s) := rfl
theorem zdm (x y : Operand) (us : Array TypeId) : opA P cfg call q ⟨d, .call ⟨.builtin .min, #[x, y], us⟩, ty, pos, af, g⟩ t env s = (foldA min2A (ev env x) [ev env y]).map (·, s) := rfl
theorem zdr (f : FuncId) (xs : Array Operand) (us : Array TypeId) : opA P cfg call false ⟨d, .call ⟨.value (.func f), xs, us⟩, ty, pos, af, g⟩ t env s = callA cfg call t s f (xs.toList.map (ev env) ++ []) := rfl
def callQQ (cfg : Cfg) (call : FuncId → List Arg → Option Out) (b : Bool) (d : Nat) (s : St) (f : FuncId) (vs : List AV) : Option (AV × St) := match b with
  | true => if vs.all isTree then callA cfg call d s f vs else none
  | false => (callQ call f vs).map (·, s)
theorem zbp (dd : Nat) (s : St) (f : FuncId) (vs : List AV) : callQQ cfg call false dd s f vs = (callQ call f vs).map (·, s) := rfl
theorem zbq (dd : Nat) (s : St) (f : FuncId) (vs : List AV) : callQQ cfg call true dd s f vs = if vs.all isTree = true then callA cfg call dd s f vs else none := rfl
def callLL (cfg : Cfg) (call : FuncId → List Arg → Option Out) (l b : Bool) (d : Nat) (s : St) (f : FuncId) (vs : List AV) : Option (AV × St) := match l with
  | true => callA cfg call d s f vs
  | false => callQQ cfg call b d s f vs
theorem zbr (b : Bool) (dd : Nat) (s : St) (f : FuncId) (vs : List AV) : callLL cfg call false b dd s f vs = callQQ cfg call b dd s f vs := rfl
theorem zbs (b : Bool) (dd : Nat) (s : St) (f : FuncId) (vs : List AV) : callLL cfg call true b dd s f vs = callA cfg call dd s f vs := rfl
theorem zds (f : FuncId) (xs : Array Operand) (us : Array TypeId) : opA P cfg call true ⟨d, .call ⟨.value (.func f), xs, us⟩, ty, pos, af, g⟩ t env s = callLL cfg call (cfg.keep (f + 1048576)) (cfg.keep f && g.isNone && d.isSome) t s f (xs.toList.map (ev env) ++ []) := by
  have hc : loudC cfg.keep ⟨d, .call ⟨.value (.func f), xs, us⟩, ty, pos, af, g⟩ = cfg.keep (f + 1048576) := rfl
  cases hl : cfg.keep (f + 1048576) with
  | true => simp only [opA, ev, if_true, hc, hl, callLL]
  | false =>
    have hfr : freshD cfg.keep ⟨d, .call ⟨.value (.func f), xs, us⟩, ty, pos, af, g⟩ = if (cfg.keep f && g.isNone && d.isSome) = true then d else none := by
      cases g <;> cases d <;> cases h : cfg.keep f <;> simp [freshD, h, hl]
    have hs : (freshD cfg.keep ⟨d, .call ⟨.value (.func f), xs, us⟩, ty, pos, af, g⟩).isSome = (cfg.keep f && g.isNone && d.isSome) := by
      rw [hfr]
      cases g <;> cases d <;> cases cfg.keep f <;> rfl
    simp only [opA, ev, if_true, hc, hl, Bool.false_eq_true, if_false, hs, callLL]
    cases cfg.keep f && g.isNone && d.isSome <;> rfl
end

section
variable {P : Program} {cfg : Cfg} {call : FuncId → List Arg → Option Out}
def condV (A B : Option Out) : AV → Option Out
  | .bool b => if b = true then A else B
  | _ => none
@[congr] theorem condV_congr {A B : Option Out} {v v' : AV} (h : v = v') : condV A B v = condV A B v' := by rw [h]
theorem zca (A B : Option Out) (b : Bool) : condV A B (.bool b) = if b = true then A else B := rfl
theorem zbz {n : Nat} (c : Operand) (a b : Code) (K : Kont) (env : Env) (s : St) : den P cfg call n (.cond c a b) K env s = condV (den P cfg call n a K env s) (den P cfg call n b K env s) (ev env c) := by
  simp only [den]
  cases h : ev env c with
  | bool x => cases x <;> rfl
  | _ => rfl
def guardV (w : Bool) (A B : Option Out) : AV → Option Out
  | .bool b => if b = w then A else B
  | .tup _ => B
  | _ => none
@[congr] theorem guardV_congr {w : Bool} {A B : Option Out} {v v' : AV} (h : v = v') : guardV w A B v = guardV w A B v' := by rw [h]
theorem zcd (w : Bool) (A B : Option Out) (b : Bool) : guardV w A B (.bool b) = if b = w then A else B := rfl
theorem zce (w : Bool) (A B : Option Out) (vs : List AV) : guardV w A B (.tup vs) = B := rfl
def guardD (all : Array Oper) (j : Nat) (env : Env) : AV := match (all[j]?).bind (·.dst) with
  | some t => env t
  | none => .undef
theorem zcc (q : Bool) (all : Array Oper) (d : Option Tmp) (op : Op) (ty : TypeId) (pos : String) (af : Array Edge) (j : Nat) (w : Bool) (r : List Oper) (K : Kont) (env : Env) (s : St) :
    ops1 P cfg call q all (⟨d, op, ty, pos, af, some (j, w)⟩ :: r) K env s = guardV w (opK P cfg call q all d r K env (opA P cfg call q ⟨d, op, ty, pos, af, some (j, w)⟩ (d.getD 0) env s)) (ops1 P cfg call q all r K (setO env d (.tup [])) s) (guardD all j env) := by
  simp only [ops1, opsA, wantA, opK, guardD]
  cases (all[j]?).bind (·.dst) with
  | none => rfl
  | some t =>
    simp only
    cases env t with
    | bool b =>
      simp only [guardV]
      cases b <;> cases w <;> simp <;> (try rfl)
      all_goals
        cases opA P cfg call q _ (d.getD 0) env s with
        | none => rfl
        | some x => cases x; rfl
    | tup vs => simp [guardV]
    | _ => simp [guardV]
theorem zcf (d : Nat) (op : Op) (ty : TypeId) (pos : String) (af : Array Edge) (g : Option (Nat × Bool)) (l : List Oper) (env : Env) : guardD ⟨⟨some d, op, ty, pos, af, g⟩ :: l⟩ 0 env = env d := rfl
theorem zcg (o : Oper) (l : List Oper) (j : Nat) (env : Env) : guardD ⟨o :: l⟩ (j + 1) env = guardD ⟨l⟩ j env := by
  simp [guardD]
end
def killM (m : Option Nat) (s : St) : St := match m with
  | some d => killD s d
  | none => s
theorem zaf (s : St) : killM none s = s := rfl
theorem zag (d : Nat) (s : St) : killM (some d) s = upd s d ⟨(s d).t, .dead⟩ := rfl
theorem zad (k : FuncId → Bool) (s : St) : killF k [] s = s := rfl
theorem zae (k : FuncId → Bool) (o : Oper) (r : List Oper) (s : St) : killF k (o :: r) s = killF k r (killM (freshD k o) s) := rfl
section
variable {k : FuncId → Bool} {d : Option Tmp} {ty : TypeId} {pos : String} {af : Array Edge} {g : Option (Nat × Bool)}
theorem zah (x : Operand) : freshD k ⟨d, .move x, ty, pos, af, g⟩ = none := by cases g <;> rfl
theorem zai (x : Operand) : freshD k ⟨d, .assign x, ty, pos, af, g⟩ = none := by cases g <;> rfl
theorem zaj (a b c : Operand) : freshD k ⟨d, .pick a b c, ty, pos, af, g⟩ = none := by cases g <;> rfl
theorem zak (o : BinOp) (u v : TypeId) (x y : Operand) : freshD k ⟨d, .binOp o u x y v, ty, pos, af, g⟩ = none := by cases g <;> rfl
theorem zal (o : UnOp) (u : TypeId) (x : Operand) : freshD k ⟨d, .unOp o u x, ty, pos, af, g⟩ = none := by cases g <;> rfl
theorem zam (u v : TypeId) (x : Operand) : freshD k ⟨d, .convert u v x, ty, pos, af, g⟩ = none := by cases g <;> rfl
theorem zan (x : Operand) (i : Nat) : freshD k ⟨d, .extract x i, ty, pos, af, g⟩ = none := by cases g <;> rfl
theorem zao (u : TypeId) (x : Operand) : freshD k ⟨d, .load u x, ty, pos, af, g⟩ = none := by cases g <;> rfl
theorem zap (u : TypeId) (x y : Operand) : freshD k ⟨d, .store u x y, ty, pos, af, g⟩ = none := by cases g <;> rfl
theorem zaq (u : TypeId) (x : Operand) (i : Nat) : freshD k ⟨d, .fieldAddr u x i, ty, pos, af, g⟩ = none := by cases g <;> rfl
theorem zar (u : TypeId) (x : Operand) (i : Nat) : freshD k ⟨d, .field u x i, ty, pos, af, g⟩ = none := by cases g <;> rfl
theorem zas (u : TypeId) (x i : Operand) : freshD k ⟨d, .indexAddr u x i, ty, pos, af, g⟩ = none := by cases g <;> rfl
theorem zat (u : TypeId) (x i : Operand) : freshD k ⟨d, .index u x i, ty, pos, af, g⟩ = none := by cases g <;> rfl
theorem zau (u : TypeId) (x : Operand) (lo hi mx : Option Operand) : freshD k ⟨d, .slice u x lo hi mx, ty, pos, af, g⟩ = none := by cases g <;> rfl
theorem zav (u : TypeId) (parts : Array (Nat × Operand)) : freshD k ⟨d, .build u parts, ty, pos, af, g⟩ = none := by cases g <;> rfl
theorem zaw (u : TypeId) (len : Nat) (parts : Array (Nat × Operand)) : freshD k ⟨d, .buildSlice u len parts, ty, pos, af, g⟩ = none := by cases g <;> rfl
theorem zax (u : TypeId) (x : Operand) : freshD k ⟨d, .box u x, ty, pos, af, g⟩ = none := by cases g <;> rfl
theorem zay (x : Operand) : freshD k ⟨d, .nilCheck x, ty, pos, af, g⟩ = none := by cases g <;> rfl
theorem zaz (xs : Array Operand) (us : Array TypeId) : freshD k ⟨d, .call ⟨.builtin .len, xs, us⟩, ty, pos, af, g⟩ = none := by cases g <;> rfl
theorem zba (xs : Array Operand) (us : Array TypeId) : freshD k ⟨d, .call ⟨.builtin .copy, xs, us⟩, ty, pos, af, g⟩ = none := by cases g <;> rfl
theorem zbb (xs : Array Operand) (us : Array TypeId) : freshD k ⟨d, .call ⟨.builtin .max, xs, us⟩, ty, pos, af, g⟩ = none := by cases g <;> rfl
theorem zbc (xs : Array Operand) (us : Array TypeId) : freshD k ⟨d, .call ⟨.builtin .min, xs, us⟩, ty, pos, af, g⟩ = none := by cases g <;> rfl
theorem zbd (xs : Array Operand) (us : Array TypeId) : freshD k ⟨d, .call ⟨.builtin .cap, xs, us⟩, ty, pos, af, g⟩ = none := by cases g <;> rfl
theorem zbe (x : Tmp) (y : Operand) (us : Array TypeId) : freshD k ⟨d, .call ⟨.builtin .append, #[.tmp x, y], us⟩, ty, pos, af, g⟩ = none := by cases g <;> rfl
theorem zbf (y : Operand) (us : Array TypeId) : freshD k ⟨d, .call ⟨.builtin .append, #[.const (.slice none 0 0), y], us⟩, ty, pos, af, none⟩ = d := rfl
theorem zbg (x y : Operand) (us : Array TypeId) (z : Nat × Bool) : freshD k ⟨d, .call ⟨.builtin .append, #[x, y], us⟩, ty, pos, af, some z⟩ = none := rfl
theorem zbh (x : Tmp) (xs : Array Operand) (us : Array TypeId) : freshD k ⟨d, .call ⟨.value (.tmp x), xs, us⟩, ty, pos, af, g⟩ = none := by cases g <;> rfl
theorem zbi (f : FuncId) (xs : Array Operand) (us : Array TypeId) : freshD k ⟨d, .call ⟨.value (.func f), xs, us⟩, ty, pos, af, none⟩ = if k (f + 1048576) = true then none else if k f = true then d else none := rfl
theorem zbj (f : FuncId) (xs : Array Operand) (us : Array TypeId) (x : Nat × Bool) : freshD k ⟨d, .call ⟨.value (.func f), xs, us⟩, ty, pos, af, some x⟩ = none := rfl
theorem zbk (u : TypeId) : freshD k ⟨d, .alloc u, ty, pos, af, none⟩ = d := rfl
theorem zbl (u : TypeId) (x : Nat × Bool) : freshD k ⟨d, .alloc u, ty, pos, af, some x⟩ = none := rfl
theorem zbm (u : TypeId) (x y : Operand) : freshD k ⟨d, .makeSlice u x y, ty, pos, af, none⟩ = d := rfl
theorem zbn (u : TypeId) (x y : Operand) (z : Nat × Bool) : freshD k ⟨d, .makeSlice u x y, ty, pos, af, some z⟩ = none := rfl
end
end Go.Ab

/- From the abstract run to what a statement asks: a function that gives true, and leaves the heap below as it was. Conditions: none beyond the abstract run's answer. -/
namespace Go.Ab
open Go.RowKit
section
variable {P : Program} {cfg : Cfg}

def IsRow (k : IntKind) (w : World) (a : Option Addr) (len cap : Nat) (zs : List Int) : Prop :=
  (a = none ∧ len = 0 ∧ cap = 0 ∧ zs = []) ∨
  ∃ x, a = some x ∧ len ≤ cap ∧ cap ≤ maxLen ∧ zs.length = cap ∧ (∀ i, i < zs.length → w.cell? (x.add i) = some (.int k (zs.getD i 0))) ∧ ∀ n ∈ zs, (Lit.int k n).wf = true
def old (w : World) : Nat → Nat → Prop := fun b _ => b < w.heap.size
theorem VC_ints {k : IntKind} {w : World} {b : Nat} : ∀ (zs : List Int) (o : Nat), (∀ i, i < zs.length → w.cell? ⟨b, o + i, none⟩ = some (.int k (zs.getD i 0))) → VC (old w) w (zs.map (AV.int k)) b o
  | [], _, _ => by simp only [List.map_nil, VC]
  | z :: zs, o, h => by
    simp only [List.map_cons, VC]
    have h0 := h 0 (by simp)
    refine ⟨?_, ⟨.int k z, by simpa using h0, rfl, by simp [V0]⟩, VC_ints zs (o + 1) fun i hi => ?_⟩
    · unfold old
      rw [Nat.add_zero, World.cell?] at h0
      have : (w.heap[b]?).isSome := by
        cases hb : w.heap[b]? with
        | none => simp only [hb] at h0; cases h0
        | some _ => rfl
      simpa using this
    · have := h (i + 1) (by simpa using hi)
      rw [show o + 1 + i = o + (i + 1) by omega]
      simpa using this
theorem V0_row {k : IntKind} {w : World} {a : Option Addr} {len cap : Nat} {zs : List Int} (h : IsRow k w a len cap zs) : V0 (old w) w (.sl ((zs.take len).map (AV.int k)) len .loose) (.slice a len cap) := by
  simp only [V0]
  rcases h with ⟨rfl, rfl, rfl, rfl⟩ | ⟨x, rfl, hl, _, hz, hc, _⟩
  · exact ⟨none, 0, rfl, by omega, by simp, by simp [Grip.isTok], .inl ⟨by simp, rfl, rfl⟩⟩
  · refine ⟨some x, cap, rfl, hl, by simp, by simp [Grip.isTok], ?_⟩
    by_cases h0 : cap = 0
    · subst h0
      have : len = 0 := by omega
      subst this
      exact .inl ⟨by simp, rfl, rfl⟩
    · obtain ⟨b, o, spot⟩ := x
      have hs : spot = none := by
        have := hc 0 (by omega)
        simpa [Addr.add] using World.cell?_spot this
      subst hs
      refine .inr ⟨b, o, rfl, VC_ints _ o fun i hi => ?_⟩
      rw [List.length_take] at hi
      have := hc i (by omega)
      have e : (⟨b, o, none⟩ : Addr).add i = ⟨b, o + i, none⟩ := by
        unfold Addr.add
        split
        · rename_i h; simp [h]
        · rfl
      rw [e] at this
      rw [show (zs.take len).getD i 0 = zs.getD i 0 by rw [List.getD_eq_getElem?_getD, List.getD_eq_getElem?_getD, List.getElem?_take, if_pos (by omega)]]
      exact this

theorem lawCallsP (hm : P.follows .mixedOrders = true) (hp : FnOk P cfg.prim) {n d : Nat} {f : FuncId} {xs : List Arg} {vs : List Value} {w : World} {os : List (List AV)} {r : AV} (he : evalFn P cfg n d f xs = some (.tree r, os))
    (hl : xs.length = vs.length) (hs : st0 xs = fun _ => ⟨0, .dead⟩) (hv : ∀ (j : Nat) (v : Value), vs[j]? = some v → V0 (old w) w (env0 xs j) v ∧ isTree (env0 xs j) = true) (b : Bool) (hr : r = .bool b) :
    Calls P f vs.toArray w fun e w' => e = .returned (.bool b) ∧ Below w.heap.size w w' := by
  subst hr
  have hnr : ∀ p b o, ¬ Rg (⟨fun _ => ⟨0, 0, 0⟩, fun _ => ⟨0, .dead⟩, old w, w⟩ : G) p b o := fun p b o h => by simp [Rg] at h
  have hI : Inv (⟨fun _ => ⟨0, 0, 0⟩, fun _ => ⟨0, .dead⟩, old w, w⟩ : G) := ⟨⟨fun p => by simp [EntOk, EntC], fun p q b o _ h => absurd h (hnr p b o), fun b o h => ⟨h, fun p => hnr p b o⟩⟩, fun p t xs hs h => by simp at h⟩
  refine ((evalFn_ok hm hp n d f xs _ os he).2 _ vs hI ⟨hs.symm, hl, fun j v hj => V.of0 (hv j v hj).1 (hv j v hj).2⟩).mono ?_
  rintro e w' ⟨v, Γ', rfl, rfl, _, hE, hF⟩
  have hres := hF.res
  simp only [ResOk, V0] at hres
  exact ⟨by rw [hres], hE.os, hE.tape, hE.output, hE.size, fun k hk => hE.block k hk fun p o => hnr p k o⟩
end
end Go.Ab

/- Functions that the abstract run takes by their contracts: what a call that turns nothing below leaves; strings.Join. Conditions: the contract. -/
namespace Go.Ab
open Go.RowKit
section
variable {P : Program}

theorem Inv.below {Γ : G} (hI : Inv Γ) {w' : World} (hb : Below Γ.w.heap.size Γ.w w') : Inv { Γ with w := w' } ∧ Ext Γ { Γ with w := w' } := by
  have hst : Stays Γ.S Γ.w Γ.S w' := fun b o hs => ⟨hs, cell_of_block (hb.block b (hI.stay b o hs).1) o⟩
  refine hI.more (fun p t xs hs h => ⟨h, rfl, fun o ⟨v, hv⟩ => cell_of_block (hb.block _ (World.block_lt_of_cell? _ _ hv)) o⟩) ?_
  refine ⟨⟨fun p => ?_, hI.apart, fun b o hs => ⟨Nat.lt_of_lt_of_le (hI.stay b o hs).1 hb.size, (hI.stay b o hs).2⟩⟩, ?_⟩
  · have h := hI.ent p
    unfold EntOk at h ⊢
    revert h
    show EntC (Γ.φ p) Γ.S Γ.w (Γ.s p).c → EntC (Γ.φ p) Γ.S w' (Γ.s p).c
    cases (Γ.s p).c with
    | dead => exact fun _ => trivial
    | buf xs =>
      simp only [EntC]
      intro ⟨h1, h2, h3, h4⟩
      have hbl := hb.block _ h1
      refine ⟨Nat.lt_of_lt_of_le h1 hb.size, fun o => by rw [frozen_of_block hbl]; exact h2 o, fun i x hx => ?_, fun i hi => by rw [cell_of_block hbl]; exact h4 i hi⟩
      obtain ⟨v, k1, k2, k3⟩ := h3 i x hx
      exact ⟨v, by rw [cell_of_block hbl]; exact k1, k2, V0.mono hst _ _ k3⟩
    | frz xs =>
      simp only [EntC]
      exact VC.mono hst xs _ _
    | mix xs hs =>
      simp only [EntC]
      intro ⟨h1, h2, h3, h4⟩
      have hbl := hb.block _ h1
      refine ⟨Nat.lt_of_lt_of_le h1 hb.size, fun o => by rw [frozen_of_block hbl]; exact h2 o, fun i x hx => ?_, fun i hi => by rw [cell_of_block hbl]; exact h4 i hi⟩
      obtain ⟨v, k1, k2, k3⟩ := h3 i x hx
      exact ⟨v, by rw [cell_of_block hbl]; exact k1, k2, V0.mono hst _ _ k3⟩
    | tok e =>
      simp only [EntC]
      intro h i hi
      obtain ⟨⟨v, k1⟩, k2⟩ := h i hi
      have hlt : (Γ.φ p).blk < Γ.w.heap.size := by
        rw [World.cell?] at k1
        have : (Γ.w.heap[(Γ.φ p).blk]?).isSome := by
          cases hb : Γ.w.heap[(Γ.φ p).blk]? with
          | none => simp only [hb] at k1; cases k1
          | some _ => rfl
        simpa using this
      have hbl := hb.block _ hlt
      exact ⟨⟨v, by rw [cell_of_block hbl]; exact k1⟩, by rw [frozen_of_block hbl]; exact k2⟩
  · exact ⟨hst, hb.os, hb.tape, hb.output, hb.size, fun b hlt _ => hb.block b hlt, fun b o hlt _ => cell_of_block (hb.block b hlt) o, fun b o hlt _ => frozen_of_block (hb.block b hlt) o, fun b o h => .inl h, fun p b o h => .inl ⟨p, h⟩, fun _ => Nat.le_refl _,
      fun _ _ xs _ h => ⟨⟨xs, h, rfl⟩, rfl⟩, fun _ _ _ _ h => ⟨h, rfl⟩⟩

structure JoinC (P : Program) (f : FuncId) : Prop where
  here : ∃ fn c, P.funcs[f]? = some fn ∧ fn.name ≠ "runtime.NumGoroutine" ∧ fn.body = some c
  empty : ∀ (a : Option Addr) (c : Nat) (sep : ByteArray) (w : World), Calls P f #[.slice a 0 c, .string sep] w fun e w' => e = .returned (.string ⟨#[]⟩) ∧ w' = w
  full : ∀ (bk o c : Nat) (xs : List ByteArray) (sep : ByteArray) (w : World), (∀ (j : Nat) x, xs[j]? = some x → w.cell? ⟨bk, o + j, none⟩ = some (.string x)) → bk < w.heap.size → xs.length ≤ 140737488355328 → xs.length ≤ c →
    (sep.data.toList.intercalate (xs.map (·.data.toList))).length ≤ 140737488355328 →
    Calls P f #[.slice (some ⟨bk, o, none⟩) xs.length c, .string sep] w fun e w' => e = .returned (.string ⟨(sep.data.toList.intercalate (xs.map (·.data.toList))).toArray⟩) ∧ Below w.heap.size w w'
end
end Go.Ab

/- What term.List makes of a row of terms, as trees. Definitions only. -/
namespace Go.Ab
def chunk (xs : List AV) (i : Nat) : List AV := (xs.drop (i * 6)).take 6
def consV (t u : List AV) : List AV := [.int .i64 4, .bool false, .sl [] 0 .nil, .str [], .int .i64 0, .sl (t ++ u) 2 .tight]
def lstN (xs : List AV) : Nat → List AV → List AV
  | 0, ys => ys
  | n + 1, ys => lstN xs n (consV (chunk xs n) ys)
def listP : List Arg → Option Out
  | [.tree (.sl xs len _), .tree (.agg ys)] => if xs.length = len * 6 ∧ ys.length = 6 ∧ len ≤ 9223372036854775807 then some (.tree (.agg (lstN xs len ys)), [[], []]) else none
  | _ => none
theorem consV_len (t u : List AV) : (consV t u).length = 6 := rfl
theorem chunk_len {xs : List AV} {len i : Nat} (h : xs.length = len * 6) (hi : i < len) : (chunk xs i).length = 6 := by
  have h1 : (i + 1) * 6 ≤ len * 6 := Nat.mul_le_mul_right 6 hi
  simp only [chunk, List.length_take, List.length_drop]
  omega
def downTo : Nat → List Nat
  | 0 => []
  | n + 1 => n :: downTo n
theorem fold_down (xs : List AV) : ∀ (n : Nat) (ys : List AV), (downTo n).foldl (fun acc i => consV (chunk xs i) acc) ys = lstN xs n ys
  | 0, _ => rfl
  | n + 1, ys => by simp only [downTo, List.foldl_cons, lstN]; exact fold_down xs n _
end Go.Ab

/- The equations of the abstract run put together, for a simplifier. No conditions. -/
namespace Go.Ab
theorem simD : type_of% (And.intro @zaa (And.intro @zab (And.intro @zac (And.intro @zad (And.intro @zae (And.intro @zaf (And.intro @zag (And.intro @zah (And.intro @zai (And.intro @zaj (And.intro @zak (And.intro @zal (And.intro @zam (And.intro @zan (And.intro @zao (And.intro @zap (And.intro @zaq (And.intro @zar (And.intro @zas (And.intro @zat (And.intro @zau (And.intro @zav (And.intro @zaw (And.intro @zax (And.intro @zay (And.intro @zaz (And.intro @zba (And.intro @zbb (And.intro @zbc (And.intro @zbd (And.intro @zbe (And.intro @zbf (And.intro @zbg (And.intro @zbh (And.intro @zbi (And.intro @zbj (And.intro @zbk (And.intro @zbl (And.intro @zbm (And.intro @zbn (And.intro @zbp (And.intro @zbr (And.intro @zbs (And.intro @zbq (And.intro @Bool.or_self (And.intro @Bool.or_false (And.intro @Bool.or_true (And.intro @Bool.and_true (And.intro @Bool.and_false (And.intro @Bool.true_and (And.intro @Bool.false_and (And.intro @Option.isNone_none.{0} (And.intro @Option.isNone_some.{0} (And.intro @Option.isSome_some.{0} (And.intro @Option.isSome_none.{0} (And.intro @zbt (And.intro @zbu (And.intro @zbv (And.intro @zbw (And.intro @zbx (And.intro @zby (And.intro @zbz (And.intro @zca (And.intro @zcb (And.intro @zcc (And.intro @zcd (And.intro @zce (And.intro @zcf (And.intro @zcg (And.intro @zch (And.intro @zcj (And.intro @zck (And.intro @zcn (And.intro @zco (And.intro @zcq (And.intro @zcr (And.intro @zcs (And.intro @zct (And.intro @zcu (And.intro @zcv (And.intro @zcw (And.intro @zcx (And.intro @zcy (And.intro @zcz (And.intro @zda (And.intro @zdb (And.intro @zdc (And.intro @zdd (And.intro @zde (And.intro @zdf (And.intro @zdg (And.intro @zdh (And.intro @zdi (And.intro @zdj (And.intro @zdk (And.intro @zdl (And.intro @zdm (And.intro @zdn (And.intro @zdo (And.intro @zdp (And.intro @zdq (And.intro @zdr (And.intro @zds (And.intro @zdt (And.intro @zdu (And.intro @zdv (And.intro @zdw (And.intro @Option.getD_some.{0} (And.intro @Option.getD_none.{0} (And.intro @zfd (And.intro @zfe (And.intro @zff (And.intro @zfg (And.intro @zfh (And.intro @zfi (And.intro @zfj (And.intro @zfk (And.intro @Option.map_some.{0,0} (And.intro @Option.map_none.{0,0} (And.intro @Option.bind_some.{0,0} (And.intro @List.map_cons.{0,0} (And.intro @List.map_nil.{0,0} (And.intro @List.cons_append.{0} (And.intro @List.nil_append.{0} (And.intro @decide_true (And.intro @decide_false (And.intro @Bool.true_eq_false (@Bool.false_eq_true)))))))))))))))))))))))))))))))))))))))))))))))))))))))))))))))))))))))))))))))))))))))))))))))))))))))))))))))))))))))))))))))) := And.intro @zaa (And.intro @zab (And.intro @zac (And.intro @zad (And.intro @zae (And.intro @zaf (And.intro @zag (And.intro @zah (And.intro @zai (And.intro @zaj (And.intro @zak (And.intro @zal (And.intro @zam (And.intro @zan (And.intro @zao (And.intro @zap (And.intro @zaq (And.intro @zar (And.intro @zas (And.intro @zat (And.intro @zau (And.intro @zav (And.intro @zaw (And.intro @zax (And.intro @zay (And.intro @zaz (And.intro @zba (And.intro @zbb (And.intro @zbc (And.intro @zbd (And.intro @zbe (And.intro @zbf (And.intro @zbg (And.intro @zbh (And.intro @zbi (And.intro @zbj (And.intro @zbk (And.intro @zbl (And.intro @zbm (And.intro @zbn (And.intro @zbp (And.intro @zbr (And.intro @zbs (And.intro @zbq (And.intro @Bool.or_self (And.intro @Bool.or_false (And.intro @Bool.or_true (And.intro @Bool.and_true (And.intro @Bool.and_false (And.intro @Bool.true_and (And.intro @Bool.false_and (And.intro @Option.isNone_none.{0} (And.intro @Option.isNone_some.{0} (And.intro @Option.isSome_some.{0} (And.intro @Option.isSome_none.{0} (And.intro @zbt (And.intro @zbu (And.intro @zbv (And.intro @zbw (And.intro @zbx (And.intro @zby (And.intro @zbz (And.intro @zca (And.intro @zcb (And.intro @zcc (And.intro @zcd (And.intro @zce (And.intro @zcf (And.intro @zcg (And.intro @zch (And.intro @zcj (And.intro @zck (And.intro @zcn (And.intro @zco (And.intro @zcq (And.intro @zcr (And.intro @zcs (And.intro @zct (And.intro @zcu (And.intro @zcv (And.intro @zcw (And.intro @zcx (And.intro @zcy (And.intro @zcz (And.intro @zda (And.intro @zdb (And.intro @zdc (And.intro @zdd (And.intro @zde (And.intro @zdf (And.intro @zdg (And.intro @zdh (And.intro @zdi (And.intro @zdj (And.intro @zdk (And.intro @zdl (And.intro @zdm (And.intro @zdn (And.intro @zdo (And.intro @zdp (And.intro @zdq (And.intro @zdr (And.intro @zds (And.intro @zdt (And.intro @zdu (And.intro @zdv (And.intro @zdw (And.intro @Option.getD_some.{0} (And.intro @Option.getD_none.{0} (And.intro @zfd (And.intro @zfe (And.intro @zff (And.intro @zfg (And.intro @zfh (And.intro @zfi (And.intro @zfj (And.intro @zfk (And.intro @Option.map_some.{0,0} (And.intro @Option.map_none.{0,0} (And.intro @Option.bind_some.{0,0} (And.intro @List.map_cons.{0,0} (And.intro @List.map_nil.{0,0} (And.intro @List.cons_append.{0} (And.intro @List.nil_append.{0} (And.intro @decide_true (And.intro @decide_false (And.intro @Bool.true_eq_false (@Bool.false_eq_true)))))))))))))))))))))))))))))))))))))))))))))))))))))))))))))))))))))))))))))))))))))))))))))))))))))))))))))))))))))))))))))))
theorem simC : type_of% (And.intro simD @zcl) := And.intro simD @zcl
theorem simB : type_of% (And.intro simC (And.intro @zci (And.intro @zcp @zcm))) := And.intro simC (And.intro @zci (And.intro @zcp @zcm))
theorem simP : type_of% (And.intro @prune_seq (And.intro @prune_cond (And.intro @prune_block (And.intro @prune_loop (And.intro @prune_scope (And.intro @prune_text (And.intro @prune_skip (And.intro @prune_ret @prune_exit)))))))) := And.intro @prune_seq (And.intro @prune_cond (And.intro @prune_block (And.intro @prune_loop (And.intro @prune_scope (And.intro @prune_text (And.intro @prune_skip (And.intro @prune_ret @prune_exit)))))))
theorem simA : type_of% (And.intro @env0.eq_1 (And.intro @List.getElem?_cons_zero.{0} @List.getElem?_cons_succ.{0})) := And.intro @env0.eq_1 (And.intro @List.getElem?_cons_zero.{0} @List.getElem?_cons_succ.{0})
end Go.Ab

/- How the abstract run takes this program's functions; what is known of functions that are not run: term.List. No conditions. -/
namespace Go.Ab
def prim0 (f : FuncId) (xs : List Arg) : Option Out := if f == 1048576 then none else if f == 84 then listP xs else none
def cfg0 : Cfg := ⟨fun _ _ => false, fun f => f == 50 || f == 74, prim0, fun _ => false⟩
theorem own0 (p : String) : cfg0.ownAt p = false := rfl
theorem zbo (f : FuncId) : cfg0.keep f = (f == 50 || f == 74) := rfl
end Go.Ab

/- Lists of limbs as trees, and the operations upon them. Conditions: lengths and places in range. -/
namespace Go.Ab
open Go.Proofs
def encC (l : List Nat) : List AV := l.map fun (x : Nat) => .int .u32 (x : Int)
inductive Gk where
  | t | l | n
def gr : Gk → Grip
  | .t => .tight
  | .l => .loose
  | .n => .nil
def encL (b : Gk) (l : List Nat) : AV := .sl (encC l) l.length (gr b)
theorem encC_len (l : List Nat) : (encC l).length = l.length := by simp [encC]
theorem encC_get (l : List Nat) (i : Nat) (h : i < l.length) : (encC l)[i]? = some (.int .u32 ((l.getD i 0 : Nat) : Int)) := by
  simp [encC, List.getD, List.getElem?_eq_getElem h]
theorem encC_drop (l : List Nat) (i : Nat) : (encC l).drop i = encC (l.drop i) := by simp [encC]
theorem encC_take (l : List Nat) (i : Nat) : (encC l).take i = encC (l.take i) := by simp [encC]
theorem encC_set (l : List Nat) (i x : Nat) : (encC l).set i (.int .u32 (x : Int)) = encC (l.set i x) := by simp [encC, List.map_set]

theorem tk3 : tkOf Try.prog 3 = .int .i64 := by kernel_rfl
theorem tk4 : tkOf Try.prog 4 = .bool := by kernel_rfl
theorem tk22 : tkOf Try.prog 23 = .sl 56 := by kernel_rfl
theorem tk31 : tkOf Try.prog 56 = .int .u32 := by kernel_rfl
theorem tk40 : tkOf Try.prog 72 = .int .u64 := by kernel_rfl
theorem esz31 : esz Try.prog 56 = some 1 := by kernel_rfl
theorem by31 : byOf Try.prog 56 = 4 := by kernel_rfl
theorem sh31 : shOf Try.prog 56 = some (false, 1) := by kernel_rfl
theorem zero31 : zeroOf Try.prog 56 = some [.int .u32 0] := by kernel_rfl

theorem zdx (s : St) (b : Gk) (l : List Nat) : lenA Try.prog 23 s (encL b l) = some (.int .i64 (l.length : Int)) := by
  simp only [lenA, tk22, encL]
theorem zdy (s : St) (g : Grip) (xs : List AV) (n : Nat) : lenA Try.prog 23 s (.sl xs n g) = some (.int .i64 (n : Int)) := by
  simp only [lenA, tk22]
theorem ia22 (s : St) (b : Gk) (l : List Nat) (k : IntKind) (i : Int) (h0 : 0 ≤ i) (h : i < l.length) : indexAddrA Try.prog 23 s (encL b l) (.int k i) = some (.rptr (encC (l.drop i.toNat))) := by
  simp only [indexAddrA, tk22, encL, esz31, Option.bind_some, h0, h, and_self, if_true, Nat.mul_one, encC_drop]
theorem ld31 (s : St) (l : List Nat) (i : Nat) (h : i < l.length) : loadA Try.prog 56 s (.rptr (encC (l.drop i))) = some (.int .u32 ((l.getD i 0 : Nat) : Int)) := by
  simp only [loadA, partA, sh31]
  rw [encC_get _ _ (by simp; omega)]
  simp [List.getD, List.getElem?_drop]
theorem zef (s : St) (x : Nat) (h : x < 4294967296) : convA Try.prog 56 72 s (.int .u32 (x : Int)) = some (.int .u64 (x : Int)) := by
  simp only [convA, tk31, tk40, IntKind.wrap, IntKind.bits, IntKind.signed]
  congr 2
  simp; omega
theorem zeg (s : St) (x : Nat) : convA Try.prog 72 56 s (.int .u64 (x : Int)) = some (.int .u32 ((x % 4294967296 : Nat) : Int)) := by
  simp only [convA, tk31, tk40, IntKind.wrap, IntKind.bits, IntKind.signed]
  congr 2

section
variable (P : Program) (t : TypeId)
theorem i64_wrap (a : Int) (h : -9223372036854775808 ≤ a) (h' : a ≤ 9223372036854775807) : IntKind.i64.wrap a = a := by
  simp [IntKind.wrap, IntKind.bits, IntKind.signed]
  split <;> omega
theorem i_add (a b : Int) (h : -9223372036854775808 ≤ a + b) (h' : a + b ≤ 9223372036854775807) : binA P .add t (.int .i64 a) (.int .i64 b) = some (.int .i64 (a + b)) := by
  simp [binA, intA, i64_wrap _ h h']
theorem i_sub (a b : Int) (h : -9223372036854775808 ≤ a - b) (h' : a - b ≤ 9223372036854775807) : binA P .sub t (.int .i64 a) (.int .i64 b) = some (.int .i64 (a - b)) := by
  simp [binA, intA, i64_wrap _ h h']
theorem i_mul (a b : Int) (h : -9223372036854775808 ≤ a * b) (h' : a * b ≤ 9223372036854775807) : binA P .mul t (.int .i64 a) (.int .i64 b) = some (.int .i64 (a * b)) := by
  simp [binA, intA, i64_wrap _ h h']
theorem zdz (k : IntKind) (a b : Int) : binA P .lss t (.int k a) (.int k b) = some (.bool (decide (a < b))) := by simp [binA, intA]
theorem zea (k : IntKind) (a b : Int) : binA P .leq t (.int k a) (.int k b) = some (.bool (decide (a ≤ b))) := by simp [binA, intA]
theorem zeb (k : IntKind) (a b : Int) : binA P .gtr t (.int k a) (.int k b) = some (.bool (decide (a > b))) := by simp [binA, intA]
theorem zec (k : IntKind) (a b : Int) : binA P .geq t (.int k a) (.int k b) = some (.bool (decide (a ≥ b))) := by simp [binA, intA]
theorem zed (k : IntKind) (a b : Int) : binA P .eql t (.int k a) (.int k b) = some (.bool (a == b)) := by simp [binA, intA]
theorem zee (k : IntKind) (a b : Int) : binA P .neq t (.int k a) (.int k b) = some (.bool (a != b)) := by simp [binA, intA]
theorem u64_wrap (x : Nat) : IntKind.u64.wrap (x : Int) = ((x % 18446744073709551616 : Nat) : Int) := by
  simp [IntKind.wrap, IntKind.bits, IntKind.signed]
theorem u_shr (a : Nat) (k : IntKind) (z : Int) (h : 0 ≤ z) (h' : z ≤ 64) : binA P .shr t (.int .u64 (a : Int)) (.int k z) = some (.int .u64 ((a / 2 ^ z.toNat : Nat) : Int)) := by
  simp only [binA, shA, if_neg (Int.not_lt.mpr h), IntKind.bits]
  rw [Nat.min_eq_left (by omega)]
  congr 2
  rw [Int.fdiv_eq_ediv_of_nonneg _ (by exact Int.le_of_lt (Int.pow_pos (by decide)))]
  simp
theorem u_shl (a : Nat) (k : IntKind) (z : Int) (h : 0 ≤ z) (h' : z ≤ 64) : binA P .shl t (.int .u64 (a : Int)) (.int k z) = some (.int .u64 (((a * 2 ^ z.toNat) % 18446744073709551616 : Nat) : Int)) := by
  simp only [binA, shA, if_neg (Int.not_lt.mpr h), IntKind.bits]
  rw [Nat.min_eq_left (by omega), ← u64_wrap]
  congr 3
theorem u_or (a b : Nat) (h : a < 18446744073709551616) (h' : b < 18446744073709551616) : binA P .or t (.int .u64 (a : Int)) (.int .u64 (b : Int)) = some (.int .u64 (((a ||| b) : Nat) : Int)) := by
  have h1 : (BitVec.ofInt 64 (a : Int) ||| BitVec.ofInt 64 (b : Int)).toNat = a ||| b := by
    rw [BitVec.toNat_or, BitVec.ofInt_natCast, BitVec.ofInt_natCast, BitVec.toNat_ofNat, BitVec.toNat_ofNat, Nat.mod_eq_of_lt h, Nat.mod_eq_of_lt h']
  have := Nat.or_lt_two_pow (n := 64) h h'
  show some (AV.int .u64 (IntKind.u64.wrap ((BitVec.ofInt 64 (a : Int) ||| BitVec.ofInt 64 (b : Int)).toNat : Int))) = _
  rw [h1, u64_wrap, Nat.mod_eq_of_lt this]
end
theorem simL : type_of% (And.intro @zdx (And.intro @zdy (And.intro @zdz (And.intro @zea (And.intro @zeb (And.intro @zec (And.intro @zed (And.intro @zee (And.intro @ia22 (And.intro @ld31 (And.intro @zef @zeg))))))))))) := And.intro @zdx (And.intro @zdy (And.intro @zdz (And.intro @zea (And.intro @zeb (And.intro @zec (And.intro @zed (And.intro @zee (And.intro @ia22 (And.intro @ld31 (And.intro @zef @zeg))))))))))
end Go.Ab

/- Numbers as lists of limbs: plain arithmetic, no program in sight. -/
namespace Go.Ab
abbrev B : Nat := 4294967296
def Limbs (l : List Nat) : Prop := ∀ x ∈ l, x < 4294967296
def val : List Nat → Nat
  | [] => 0
  | x :: r => x + B * val r
def digs (v : Nat) : List Nat := if _h : v = 0 then [] else (v % B) :: digs (v / B)
termination_by v
decreasing_by exact Nat.div_lt_self (by omega) (by decide)
theorem digs_0 : digs 0 = [] := by rw [digs]; simp
theorem digs_pos (v : Nat) (h : v ≠ 0) : digs v = (v % B) :: digs (v / B) := by rw [digs]; simp [h]
theorem limbs_nil : Limbs [] := by intro x h; cases h
theorem limbs_cons {x : Nat} {l : List Nat} (h : x < B) (hl : Limbs l) : Limbs (x :: l) := by
  intro y hy
  rcases List.mem_cons.mp hy with rfl | hy
  · exact h
  · exact hl y hy
theorem Limbs.tail {x : Nat} {l : List Nat} (h : Limbs (x :: l)) : Limbs l := fun y hy => h y (List.mem_cons_of_mem _ hy)
theorem Limbs.head {x : Nat} {l : List Nat} (h : Limbs (x :: l)) : x < B := h x (List.mem_cons_self ..)
theorem Limbs.take {l : List Nat} (h : Limbs l) (k : Nat) : Limbs (l.take k) := fun x hx => h x (List.mem_of_mem_take hx)
theorem Limbs.drop {l : List Nat} (h : Limbs l) (k : Nat) : Limbs (l.drop k) := fun x hx => h x (List.mem_of_mem_drop hx)
theorem limbs_one {x : Nat} (h : x < B) : Limbs [x] := limbs_cons h limbs_nil
theorem limbs_digs (v : Nat) : Limbs (digs v) := by
  induction v using Nat.strongRecOn with
  | _ v ih =>
    by_cases h : v = 0
    · subst h; rw [digs_0]; exact limbs_nil
    · rw [digs_pos v h]
      exact limbs_cons (Nat.mod_lt _ (by decide)) (ih _ (Nat.div_lt_self (by omega) (by decide)))
theorem val_digs (v : Nat) : val (digs v) = v := by
  induction v using Nat.strongRecOn with
  | _ v ih =>
    by_cases h : v = 0
    · subst h; rw [digs_0]; rfl
    · rw [digs_pos v h, val, ih _ (Nat.div_lt_self (by omega) (by decide))]
      exact Nat.mod_add_div v B
theorem val_app (l m : List Nat) : val (l ++ m) = val l + B ^ l.length * val m := by
  induction l with
  | nil => simp [val]
  | cons x l ih =>
    simp only [List.cons_append, val, ih, List.length_cons, Nat.pow_succ]
    rw [Nat.mul_add, Nat.add_assoc, Nat.mul_comm (B ^ l.length) B, Nat.mul_assoc]
theorem val_lt (l : List Nat) (h : Limbs l) : val l < B ^ l.length := by
  induction l with
  | nil => simp [val]
  | cons x l ih =>
    have h1 := ih h.tail
    have h2 := h.head
    simp only [val, List.length_cons, Nat.pow_succ]
    have : B * (val l + 1) ≤ B * B ^ l.length := Nat.mul_le_mul_left _ h1
    rw [Nat.mul_comm (B ^ l.length) B]
    have e : B * (val l + 1) = B * val l + B := by rw [Nat.mul_add, Nat.mul_one]
    omega
theorem digs_val (l : List Nat) (h : Limbs l) (hc : ∀ x, l.getLast? = some x → x ≠ 0) : digs (val l) = l := by
  induction l with
  | nil => exact digs_0
  | cons x l ih =>
    have hx := h.head
    have h2 : (x + B * val l) / B = val l := by
      rw [Nat.add_mul_div_left _ _ (by decide), Nat.div_eq_of_lt hx, Nat.zero_add]
    have h1 : (x + B * val l) % B = x := by
      rw [Nat.add_mul_mod_self_left, Nat.mod_eq_of_lt hx]
    have hne : x + B * val l ≠ 0 := by
      cases l with
      | nil =>
        have := hc x rfl
        omega
      | cons y l =>
        intro h0
        have hv : val (y :: l) = 0 := by
          rcases Nat.eq_zero_or_pos (val (y :: l)) with h | h
          · exact h
          · have : B * 1 ≤ B * val (y :: l) := Nat.mul_le_mul_left _ h
            simp only [B] at *
            omega
        have := ih h.tail (by intro z hz; exact hc z (by simpa [List.getLast?_cons] using hz))
        rw [hv, digs_0] at this
        cases this
    show digs (x + B * val l) = x :: l
    rw [digs_pos _ hne, h1, h2]
    cases l with
    | nil => simp [val, digs_0]
    | cons y l => rw [ih h.tail (by intro z hz; exact hc z (by simpa [List.getLast?_cons] using hz))]
theorem digs_len (v k : Nat) (h : v < B ^ k) : (digs v).length ≤ k := by
  induction k generalizing v with
  | zero => have : v = 0 := by simpa using h
            subst this; rw [digs_0]; simp
  | succ k ih =>
    by_cases h0 : v = 0
    · subst h0; rw [digs_0]; simp
    · rw [digs_pos v h0, List.length_cons]
      have : v / B < B ^ k := by
        rw [Nat.div_lt_iff_lt_mul (by decide)]
        rwa [Nat.pow_succ] at h
      have := ih _ this
      omega
theorem val_take_succ (l : List Nat) (k : Nat) (h : k < l.length) : val (l.take (k + 1)) = val (l.take k) + B ^ k * l.getD k 0 := by
  rw [List.take_succ_eq_append_getElem h, val_app]
  simp [val, Nat.min_eq_left (Nat.le_of_lt h), List.getD, List.getElem?_eq_getElem h]
theorem getD_of_ge (l : List Nat) (k : Nat) (h : l.length ≤ k) : l.getD k 0 = 0 := by
  rw [List.getD_eq_getElem?_getD, List.getElem?_eq_none h]; rfl
theorem val_take_succ' (l : List Nat) (k : Nat) : val (l.take (k + 1)) = val (l.take k) + B ^ k * l.getD k 0 := by
  by_cases h : k < l.length
  · exact val_take_succ l k h
  · rw [getD_of_ge l k (by omega), List.take_of_length_le (by omega), List.take_of_length_le (by omega)]
    simp
end Go.Ab

/- Comparing numbers by limbs from the top: plain arithmetic. -/
namespace Go.Ab
theorem val_take_lt (l : List Nat) (hl : Limbs l) (k : Nat) : val (l.take k) < B ^ k := by
  have h := val_lt _ (hl.take k)
  have h2 : (l.take k).length ≤ k := by rw [List.length_take]; omega
  exact Nat.lt_of_lt_of_le h (Nat.pow_le_pow_right (by decide) h2)
def blen (v : Nat) : Nat := if v = 0 then 0 else Nat.log2 v + 1
end Go.Ab

/- The program's number lists: reading, comparing, what their functions compute. Conditions: lengths and places in range. -/
namespace Go.Ab
open Go.Proofs
set_option maxRecDepth 100000
set_option linter.unusedSimpArgs false

theorem getD_lt (l : List Nat) (hl : ∀ x ∈ l, x < 4294967296) (i : Nat) : l.getD i 0 < 4294967296 := by
  by_cases h : i < l.length
  · rw [List.getD_eq_getElem?_getD, List.getElem?_eq_getElem h]
    exact hl _ (List.getElem_mem h)
  · rw [List.getD_eq_getElem?_getD, List.getElem?_eq_none (by omega)]; decide

theorem argA_L (cfg : Cfg) (f : FuncId) (s : St) (j : Nat) (b : Gk) (l : List Nat) : argA cfg f s j (encL b l) = some (.tree (encL b l)) := by
  cases b <;> rfl
theorem callA_int1 (call : FuncId → List Arg → Option Out) (d : Nat) (s : St) (f : FuncId) (k : IntKind) (z : Int) (v : AV) (hc : call f [.tree (.int k z)] = some (.tree v, [[]])) : callA cfg0 call d s f [.int k z] = some (v, s) := by
  simp [callA, argsA, argA, givesL, lendsL, givesOf, lendsOf, hc, backA, resA]
theorem gives_L (b : Gk) (l : List Nat) (a : Arg) : givesOf (encL b l) a = none := by cases b <;> cases a <;> rfl
theorem lends_L (b : Gk) (l : List Nat) (a : Arg) : lendsOf (encL b l) a = none := by cases b <;> cases a <;> rfl
theorem callA_L1 (call : FuncId → List Arg → Option Out) (d : Nat) (s : St) (f : FuncId) (b : Gk) (l : List Nat) (v : AV) (hc : call f [.tree (encL b l)] = some (.tree v, [[]])) : callA cfg0 call d s f [encL b l] = some (v, s) := by
  simp [callA, argsA, argA_L, givesL, lendsL, gives_L, lends_L, hc, backA, resA]
end Go.Ab

/- What the program's Norm computes. Conditions: limbs in range, not too many. -/
namespace Go.Ab
open Go.Proofs
set_option maxRecDepth 100000
set_option linter.unusedSimpArgs false

def encR (v : Nat) : AV := encL (if v = 0 then .n else .l) (digs v)
def dead : St := fun _ => ⟨0, .dead⟩
theorem st0_1 (v : AV) : st0 [.tree v] = dead := by
  funext j; cases j <;> simp [st0, dead]
theorem st0_2 (v w : AV) : st0 [.tree v, .tree w] = dead := by
  funext j
  match j with
  | 0 | 1 | _ + 2 => simp [st0, dead]
theorem rep_zero (k : Nat) : rep k [AV.int .u32 0] = encC (List.replicate k 0) := by
  induction k with
  | zero => rfl
  | succ k ih => simp only [rep, List.replicate_succ, List.flatten_cons, encC, List.map_cons] at *; rw [ih]; rfl
theorem make22 (d : Nat) (s : St) (z : Int) (h : 0 ≤ z) (h' : z ≤ 2147483648) : makeA Try.prog 23 d s (.int .i64 z) (.int .i64 z) = some (.own d ((s d).t + 1) 0 z.toNat 1, upd s d ⟨(s d).t + 1, .buf (encC (List.replicate z.toNat 0))⟩) := by
  simp only [makeA, tk22, esz31, zero31, by31, Option.bind_some, rep_zero]
  rw [if_pos ⟨h, Int.le_refl _, h', by decide, rfl⟩]
theorem splice_enc (m l : List Nat) (k : Nat) : splice (encC m) k (encC l) = encC (m.take k ++ l ++ m.drop (k + l.length)) := by
  simp [splice, encC]
theorem copy22 (s : St) (p t : Nat) (m l : List Nat) (b : Gk) : copyA Try.prog #[23, 23] (upd s p ⟨t, .buf (encC m)⟩) (.own p t 0 m.length 1) (encL b l) =
    some (.int .i64 (Nat.min l.length m.length : Nat), upd (upd s p ⟨t, .buf (encC m)⟩) p ⟨t, .buf (encC (l.take m.length ++ m.drop l.length))⟩) := by
  have e1 : (#[23, 23] : Array TypeId)[0]? = some 23 := rfl
  have e2 : (#[23, 23] : Array TypeId)[1]? = some 23 := rfl
  simp only [copyA, e1, e2, Option.map_some, tk22, esz31, Option.bind_some, moreA, encL, encC_len, Nat.mul_one, if_true, zfk, ↓reduceIte]
  rw [if_pos ⟨trivial, trivial, by omega⟩]
  simp only [encC_take, splice_enc, List.take_zero, List.nil_append, Nat.zero_add]
  congr 6
  rw [List.length_take]
  congr 1
  · rw [show l.length.min m.length = min l.length m.length from rfl]
    rcases Nat.le_total l.length m.length with h | h
    · rw [Nat.min_eq_left h, List.take_of_length_le (Nat.le_refl _), List.take_of_length_le h]
    · rw [Nat.min_eq_right h]
  · rw [show l.length.min m.length = min l.length m.length from rfl]
    rcases Nat.le_total l.length m.length with h | h
    · rw [Nat.min_eq_left h, Nat.min_eq_left (Nat.le_refl _)]
    · rw [Nat.min_eq_right h, Nat.min_eq_left h, List.drop_of_length_le (Nat.le_refl _), List.drop_of_length_le h]
theorem own_ends (s : St) (np p t k : Nat) (xs : List AV) (h : k * 1 ≤ xs.length) : finish1 false np (upd s p ⟨t, .buf xs⟩) (.own p t 0 k 1) = some (.tree (.sl (xs.take k) k .loose), upd (upd s p ⟨t, .buf xs⟩) p ⟨t, .frz xs⟩) := by
  have : k ≤ xs.length := by omega
  simp [finish1, settle, zfk, this]

theorem finish_tree (k : Bool) (xs : List Arg) (t : Nat) (env : Env) (s s' : St) (v v' : AV) (os : List (List AV)) (hv : env t = v) (hf : finish1 k xs.length s v = some (.tree v', s')) (ho : outsA s' 0 xs = some os) :
    finishP Try.prog k xs #[.tmp t] env s = some (.tree v', os) := by
  simp only [finishP_t1, finishP_t2, finish, hv, hf, ho, Option.bind_some, Option.map_some]

theorem norm_eq (n d : Nat) (b : Gk) (l : List Nat) (hl : Limbs l) (hn : l.length < n) (hlen : l.length ≤ 1000000) : evalFn Try.prog cfg0 n (d+1) 72 [.tree (encL b l)] = some (.tree (encR (val l)), [[]]) := by
  rw [evalFn_go _ Try.func72 (by unfold Try.f72; rfl) (by unfold Try.f72; decide) (Nat.le_of_ble_eq_true (by unfold Try.f72; rfl)) (by kernel_rfl)]
  simp only [simB, zbo, Nat.reduceBEq, own0, ↓reduceIte, Nat.reduceEqDiff, Nat.reduceAdd, simA, simL, st0_1, den_loop]
  refine loop_ends (X := Nat) (fun k env s => env 0 = encL b l ∧ env 3 = .int .i64 (k : Int) ∧ s = dead ∧ k ≤ l.length ∧ val (l.take k) = val l) id (fun _ => (.tree (encR (val l)), [[]])) ?_ n l.length _ _ hn ⟨rfl, rfl, rfl, Nat.le_refl _, by simp⟩
  intro k x hx ih env s ⟨h0, h3, hs, hk, hv⟩
  subst hs
  by_cases hp : x = 0
  · subst hp
    have q1 : ¬ (((0 : Nat) : Int) > 0) := by omega
    have q2 : ((((0 : Nat) : Int)) == 0) = true := rfl
    have hv0 : val l = 0 := by rw [← hv]; rfl
    simp only [simB, zbo, Nat.reduceBEq, own0, ↓reduceIte, Nat.reduceEqDiff, Nat.reduceAdd, simL, h0, h3, q1, q2]
    rw [hv0]
    rw [show encR 0 = .sl [] 0 .nil by rw [encR, digs_0]; rfl]
    exact finish_tree _ _ _ _ _ _ (.sl [] 0 .nil) _ _ (by simp only [zfk, ↓reduceIte]) rfl rfl
  · obtain ⟨y, rfl⟩ : ∃ y, x = y + 1 := ⟨x - 1, by omega⟩
    have p1 : ((y + 1 : Nat) : Int) > 0 := by omega
    have p2 : ((y + 1 : Nat) : Int) - 1 = (y : Int) := by omega
    have p3 : (y : Int) < l.length := by omega
    have p4 : y < l.length := by omega
    have p6 : (0 : Int) ≤ y := by omega
    have e1 : binA Try.prog .sub 3 (.int .i64 ((y + 1 : Nat) : Int)) (.int .i64 1) = some (.int .i64 (y : Int)) := by rw [i_sub _ _ _ _ (by omega) (by omega), p2]
    by_cases hz : l.getD y 0 = 0
    · have p5 : (((l.getD y 0 : Nat) : Int) == 0) = true := by rw [hz]; rfl
      simp only [simB, zbo, Nat.reduceBEq, own0, ↓reduceIte, Nat.reduceEqDiff, Nat.reduceAdd, simL, h0, h3, p1, e1, p6, p3, Int.toNat_natCast, p4, p5]
      refine ih y _ _ (Nat.lt_succ_self _) rfl ⟨?_, ?_, rfl, by omega, ?_⟩
      · simp only [zfk, ↓reduceIte, Nat.reduceEqDiff, h0]
      · simp only [zfk, ↓reduceIte, Nat.reduceEqDiff]
      · rw [← hv, val_take_succ _ _ p4, hz, Nat.mul_zero, Nat.add_zero]
    · have p5 : (((l.getD y 0 : Nat) : Int) == 0) = false := by
        rw [beq_eq_false_iff_ne]; omega
      have p7 : (((y + 1 : Nat) : Int) == 0) = false := by
        rw [beq_eq_false_iff_ne]; omega
      have e2 := make22 22 dead ((y + 1 : Nat) : Int) (by omega) (by omega)
      rw [Int.toNat_natCast] at e2
      have e3 := copy22 dead 22 1 (List.replicate (y + 1) 0) l b
      rw [List.length_replicate] at e3
      have e4 : (dead 22).t + 1 = 1 := rfl
      simp only [simB, zbo, Nat.reduceBEq, own0, ↓reduceIte, Nat.reduceEqDiff, Nat.reduceAdd, simL, h0, h3, p1, e1, p6, p3, Int.toNat_natCast, p4, p5, p7, e2, e3, e4]
      have ec : l.take (y + 1) ++ (List.replicate (y + 1) 0).drop l.length = l.take (y + 1) := by
        rw [List.drop_of_length_le (by simp; omega), List.append_nil]
      have el : (l.take (y + 1)).length = y + 1 := by rw [List.length_take]; omega
      have er : encR (val l) = .sl (encC (l.take (y + 1))) (y + 1) .loose := by
        have hd : digs (val l) = l.take (y + 1) := by
          rw [← hv]
          refine digs_val _ (hl.take _) ?_
          intro x hx
          rw [List.getLast?_eq_getElem?, el, Nat.add_sub_cancel, List.getElem?_take, if_pos (Nat.lt_succ_self y)] at hx
          rw [List.getD_eq_getElem?_getD, hx] at hz
          exact hz
        have hne : val l ≠ 0 := by
          intro h
          rw [h, digs_0] at hd
          rw [← hd] at el
          cases el
        rw [encR, hd, encL, el]
        simp [hne, gr]
      rw [ec, er]
      have := own_ends (upd dead 22 ⟨1, .buf (encC (List.replicate (y + 1) 0))⟩) 1 22 1 (y + 1) (encC (l.take (y + 1))) (by rw [encC_len, el]; omega)
      have ht : (encC (l.take (y + 1))).take (y + 1) = encC (l.take (y + 1)) := List.take_of_length_le (by rw [encC_len, el]; exact Nat.le_refl _)
      rw [ht] at this
      exact finish_tree _ _ _ _ _ _ (.own 22 1 0 (y + 1) 1) _ _ (by simp only [zfk, ↓reduceIte, Nat.reduceEqDiff]) this rfl
end Go.Ab

/- What the program's Cmp, Len compute. Conditions: limbs in range, not too many. -/
namespace Go.Ab
open Go.Proofs
set_option maxRecDepth 100000
set_option linter.unusedSimpArgs false

end Go.Ab

/- Sums and differences limb by limb: plain arithmetic. -/
namespace Go.Ab
end Go.Ab

/- What the program's Add, Sub compute. Conditions: limbs in range, not too many. -/
namespace Go.Ab
open Go.Proofs
set_option maxRecDepth 100000
set_option linter.unusedSimpArgs false

theorem norm_call (n d : Nat) (b : Gk) (o : List Nat) (ho : Limbs o) (hn : o.length < n) (hl : o.length ≤ 1000000) (D : Nat) (s : St) : callA cfg0 (evalFn Try.prog cfg0 n (d + 1)) D s 72 [encL b o] = some (encR (val o), s) :=
  callA_L1 _ D s 72 b o _ (norm_eq n d b o ho hn hl)
end Go.Ab

/- What the program's Sub computes. Conditions: limbs in range, not too many. -/
namespace Go.Ab
open Go.Proofs
set_option maxRecDepth 100000
set_option linter.unusedSimpArgs false

end Go.Ab

/- How many bits a number has: plain arithmetic. -/
namespace Go.Ab
theorem blen_0 : blen 0 = 0 := rfl
theorem blen_of (v k : Nat) (h : 2 ^ k ≤ v) (h' : v < 2 ^ (k + 1)) : blen v = k + 1 := by
  have h0 : v ≠ 0 := by have := Nat.two_pow_pos k; omega
  rw [blen, if_neg h0, (Nat.log2_eq_iff h0).mpr ⟨h, h'⟩]
theorem blen_is (v : Nat) (h : v ≠ 0) : ∃ k, blen v = k + 1 ∧ 2 ^ k ≤ v ∧ v < 2 ^ (k + 1) := by
  have := (Nat.log2_eq_iff (k := Nat.log2 v) h).mp rfl
  exact ⟨Nat.log2 v, by rw [blen, if_neg h], this.1, this.2⟩
theorem lt_blen (v : Nat) : v < 2 ^ blen v := by
  by_cases h : v = 0
  · subst h; decide
  · obtain ⟨k, h1, _, h3⟩ := blen_is v h; rw [h1]; exact h3
theorem blen_le (v k : Nat) (h : v < 2 ^ k) : blen v ≤ k := by
  by_cases h0 : v = 0
  · subst h0; exact Nat.zero_le _
  · obtain ⟨j, h1, h2, _⟩ := blen_is v h0
    rw [h1]
    exact (Nat.pow_lt_pow_iff_right (by decide)).mp (Nat.lt_of_le_of_lt h2 h)
theorem blen_up (v r k : Nat) (h : v ≠ 0) (hr : r < 2 ^ k) : blen (r + 2 ^ k * v) = blen v + k := by
  obtain ⟨j, h1, h2, h3⟩ := blen_is v h
  rw [h1, show j + 1 + k = (k + j) + 1 by omega]
  apply blen_of
  · rw [Nat.pow_add]
    have := Nat.mul_le_mul_left (2 ^ k) h2
    omega
  · rw [show k + j + 1 = k + (j + 1) by omega, Nat.pow_add]
    have := Nat.mul_le_mul_left (2 ^ k) (show v + 1 ≤ 2 ^ (j + 1) by omega)
    rw [Nat.mul_add, Nat.mul_one] at this
    omega
theorem blen_down (v k : Nat) (h : 2 ^ k ≤ v) : blen v = blen (v / 2 ^ k) + k := by
  have h0 : v / 2 ^ k ≠ 0 := by
    have := Nat.div_pos h (Nat.two_pow_pos k); omega
  have := blen_up (v / 2 ^ k) (v % 2 ^ k) k h0 (Nat.mod_lt _ (Nat.two_pow_pos k))
  rw [Nat.mod_add_div] at this
  exact this
theorem B_pow (k : Nat) : B ^ k = 2 ^ (32 * k) := by
  rw [Nat.pow_mul]
theorem blen_val (l : List Nat) (hl : Limbs l) (y : Nat) (hz : l.getD y 0 ≠ 0) (hv : val (l.take (y + 1)) = val l) : blen (val l) = 32 * y + blen (l.getD y 0) := by
  rw [← hv, val_take_succ', B_pow, blen_up _ _ _ hz (by rw [← B_pow]; exact val_take_lt l hl y)]
  omega
end Go.Ab

/- What the program's Len computes. Conditions: limbs in range, not too many. -/
namespace Go.Ab
open Go.Proofs
set_option maxRecDepth 100000
set_option linter.unusedSimpArgs false

theorem tk5 : tkOf Try.prog 5 = .int .u8 := by kernel_rfl
theorem tk9 : tkOf Try.prog 9 = .str := by kernel_rfl
theorem s_shr (P : Program) (t : TypeId) (a : Nat) (k : IntKind) (z : Int) (h : 0 ≤ z) (h' : z ≤ 32) : binA P .shr t (.int .u32 (a : Int)) (.int k z) = some (.int .u32 ((a / 2 ^ z.toNat : Nat) : Int)) := by
  simp only [binA, shA, if_neg (Int.not_lt.mpr h), IntKind.bits]
  rw [Nat.min_eq_left (by omega)]
  congr 2
  rw [Int.fdiv_eq_ediv_of_nonneg _ (by exact Int.le_of_lt (Int.pow_pos (by decide)))]
  simp
theorem conv31_5 (s : St) (x : Nat) (h : x < 256) : convA Try.prog 56 5 s (.int .u32 (x : Int)) = some (.int .u8 (x : Int)) := by
  simp only [convA, tk31, tk5, IntKind.wrap, IntKind.bits, IntKind.signed]
  congr 2
  simp; omega
theorem conv5_3 (s : St) (x : Nat) (h : x < 256) : convA Try.prog 5 3 s (.int .u8 (x : Int)) = some (.int .i64 (x : Int)) := by
  simp only [convA, tk5, tk3]
  rw [i64_wrap _ (by omega) (by omega)]
def isTab (l : List UInt8) : Bool := decide (l.length = 256) && (List.range 256).all fun i => if i = 0 then decide ((l.getD i 0).toNat = 0) else decide ((l.getD i 0).toNat ≠ 0 ∧ 2 ^ ((l.getD i 0).toNat - 1) ≤ i ∧ i < 2 ^ ((l.getD i 0).toNat))
theorem tab9 (l : List UInt8) (h : isTab l = true) (k : IntKind) (x : Nat) (hx : x < 256) : indexA Try.prog 9 (.str l) (.int k (x : Int)) = some (.int .u8 ((blen x : Nat) : Int)) := by
  simp only [isTab, Bool.and_eq_true, decide_eq_true_eq, List.all_eq_true, List.mem_range] at h
  obtain ⟨hl, hb⟩ := h
  have := hb x hx
  simp only [indexA, tk9, hl, Int.toNat_natCast]
  rw [if_pos (by omega)]
  congr 3
  by_cases h0 : x = 0
  · subst h0
    simpa [blen_0] using this
  · rw [if_neg h0, decide_eq_true_eq] at this
    obtain ⟨h1, h2, h3⟩ := this
    obtain ⟨j, hj⟩ : ∃ j, (l.getD x 0).toNat = j + 1 := ⟨(l.getD x 0).toNat - 1, by omega⟩
    rw [hj] at h2 h3 ⊢
    rw [blen_of x j (by simpa using h2) h3]
theorem zex (env : Env) (b : ByteArray) : ev env (.const (.string b)) = .str b.data.toList := rfl

theorem len32_eq (n d : Nat) (x : Nat) (hx : x < 4294967296) : evalFn Try.prog cfg0 n (d+1) 77 [.tree (.int .u32 (x : Int))] = some (.tree (.int .i64 ((blen x : Nat) : Int)), [[]]) := by
  rw [evalFn_go _ Try.func77 (by unfold Try.f77; rfl) (by unfold Try.f77; decide) (Nat.le_of_ble_eq_true (by unfold Try.f77; rfl)) (by kernel_rfl)]
  have hb : ∀ y, y < 256 → blen y < 256 := fun y hy => by have := blen_le y 8 (by omega); omega
  by_cases h1 : x ≥ 65536
  · have p1 : (x : Int) ≥ 65536 := by omega
    have e1 := s_shr Try.prog 56 x .u64 16 (by decide) (by decide)
    rw [show (2 : Nat) ^ (16 : Int).toNat = 65536 from rfl] at e1
    have hb1 := blen_down x 16 (by omega)
    rw [show (2 : Nat) ^ 16 = 65536 from rfl] at hb1
    have hy : x / 65536 < 65536 := by omega
    generalize x / 65536 = y at *
    by_cases h2 : y ≥ 256
    · have p2 : (y : Int) ≥ 256 := by omega
      have e2 := s_shr Try.prog 56 y .u64 8 (by decide) (by decide)
      rw [show (2 : Nat) ^ (8 : Int).toNat = 256 from rfl] at e2
      have hb2 := blen_down y 8 (by omega)
      rw [show (2 : Nat) ^ 8 = 256 from rfl] at hb2
      have hz : y / 256 < 256 := by omega
      generalize y / 256 = z at *
      have e3 := i_add Try.prog 3 (16 : Int) 8 (by decide) (by decide)
      have hbz := hb z hz
      have e4 := i_add Try.prog 3 (16 + 8 : Int) (blen z : Int) (by omega) (by omega)
      simp only [simB, zbo, Nat.reduceBEq, own0, ↓reduceIte, Nat.reduceEqDiff, Nat.reduceAdd, simA, simL, p1, e1, p2, e2, e3, conv31_5, hz, zfc, zex]
      rw [tab9 _ ?tt _ z hz]
      case tt => kernel_rfl
      simp only [simB, zbo, Nat.reduceBEq, own0, ↓reduceIte, Nat.reduceEqDiff, Nat.reduceAdd, simA, simL, conv5_3 _ _ (hb z hz), e4]
      exact finish_tree _ _ _ _ _ _ (.int .i64 (blen x : Int)) _ _ (by simp only [zfk, ↓reduceIte, Nat.reduceEqDiff]; congr 1; omega) rfl rfl
    · have p2 : ¬ (y : Int) ≥ 256 := by omega
      have hz : y < 256 := by omega
      have hbz := hb y hz
      have e4 := i_add Try.prog 3 (16 : Int) (blen y : Int) (by omega) (by omega)
      simp only [simB, zbo, Nat.reduceBEq, own0, ↓reduceIte, Nat.reduceEqDiff, Nat.reduceAdd, simA, simL, p1, e1, p2, conv31_5, hz, zfc, zex]
      rw [tab9 _ ?tt _ y hz]
      case tt => kernel_rfl
      simp only [simB, zbo, Nat.reduceBEq, own0, ↓reduceIte, Nat.reduceEqDiff, Nat.reduceAdd, simA, simL, conv5_3 _ _ (hb y hz), e4]
      exact finish_tree _ _ _ _ _ _ (.int .i64 (blen x : Int)) _ _ (by simp only [zfk, ↓reduceIte, Nat.reduceEqDiff]; congr 1; omega) rfl rfl
  · have p1 : ¬ (x : Int) ≥ 65536 := by omega
    by_cases h2 : x ≥ 256
    · have p2 : (x : Int) ≥ 256 := by omega
      have e2 := s_shr Try.prog 56 x .u64 8 (by decide) (by decide)
      rw [show (2 : Nat) ^ (8 : Int).toNat = 256 from rfl] at e2
      have hb2 := blen_down x 8 (by omega)
      rw [show (2 : Nat) ^ 8 = 256 from rfl] at hb2
      have hz : x / 256 < 256 := by omega
      generalize x / 256 = z at *
      have e3 := i_add Try.prog 3 (0 : Int) 8 (by decide) (by decide)
      have hbz := hb z hz
      have e4 := i_add Try.prog 3 (0 + 8 : Int) (blen z : Int) (by omega) (by omega)
      simp only [simB, zbo, Nat.reduceBEq, own0, ↓reduceIte, Nat.reduceEqDiff, Nat.reduceAdd, simA, simL, p1, p2, e2, e3, conv31_5, hz, zfc, zex]
      rw [tab9 _ ?tt _ z hz]
      case tt => kernel_rfl
      simp only [simB, zbo, Nat.reduceBEq, own0, ↓reduceIte, Nat.reduceEqDiff, Nat.reduceAdd, simA, simL, conv5_3 _ _ (hb z hz), e4]
      exact finish_tree _ _ _ _ _ _ (.int .i64 (blen x : Int)) _ _ (by simp only [zfk, ↓reduceIte, Nat.reduceEqDiff]; congr 1; omega) rfl rfl
    · have p2 : ¬ (x : Int) ≥ 256 := by omega
      have hz : x < 256 := by omega
      have hbz := hb x hz
      have e4 := i_add Try.prog 3 (0 : Int) (blen x : Int) (by omega) (by omega)
      simp only [simB, zbo, Nat.reduceBEq, own0, ↓reduceIte, Nat.reduceEqDiff, Nat.reduceAdd, simA, simL, p1, p2, conv31_5, hz, zfc, zex]
      rw [tab9 _ ?tt _ x hz]
      case tt => kernel_rfl
      simp only [simB, zbo, Nat.reduceBEq, own0, ↓reduceIte, Nat.reduceEqDiff, Nat.reduceAdd, simA, simL, conv5_3 _ _ (hb x hz), e4]
      exact finish_tree _ _ _ _ _ _ (.int .i64 (blen x : Int)) _ _ (by simp only [zfk, ↓reduceIte, Nat.reduceEqDiff]; congr 1; omega) rfl rfl

theorem len32_call (n d : Nat) (x : Nat) (hx : x < 4294967296) (D : Nat) (s : St) : callA cfg0 (evalFn Try.prog cfg0 n (d+1)) D s 77 [.int .u32 (x : Int)] = some (.int .i64 ((blen x : Nat) : Int), s) :=
  callA_int1 _ _ _ _ _ _ _ (len32_eq n d x hx)

theorem len_eq (n d : Nat) (b : Gk) (l : List Nat) (hl : Limbs l) (hn : l.length < n) (hlen : l.length ≤ 1000000) : evalFn Try.prog cfg0 n (d+2) 43 [.tree (encL b l)] = some (.tree (.int .i64 ((blen (val l) : Nat) : Int)), [[]]) := by
  rw [evalFn_go _ Try.func43 (by unfold Try.f43; rfl) (by unfold Try.f43; decide) (Nat.le_of_ble_eq_true (by unfold Try.f43; rfl)) (by kernel_rfl)]
  have e0 := i_sub Try.prog 3 (l.length : Int) 1 (by omega) (by omega)
  simp only [simB, zbo, Nat.reduceBEq, own0, ↓reduceIte, Nat.reduceEqDiff, Nat.reduceAdd, simA, simL, st0_1, e0, den_loop]
  refine loop_ends (X := Nat) (fun k env s => env 0 = encL b l ∧ env 3 = .int .i64 ((k : Int) - 1) ∧ s = dead ∧ k ≤ l.length ∧ val (l.take k) = val l) id (fun _ => (.tree (.int .i64 ((blen (val l) : Nat) : Int)), [[]])) ?_ n l.length _ _ hn ⟨rfl, rfl, rfl, Nat.le_refl _, by simp⟩
  intro k x hx ih env s ⟨h0, h3, hs, hk, hv⟩
  subst hs
  by_cases hp : x = 0
  · subst hp
    have q1 : ¬ (((0 : Nat) : Int) - 1 ≥ 0) := by omega
    have q2 : ((0 : Nat) : Int) - 1 < 0 := by omega
    have hv0 : val l = 0 := by rw [← hv]; rfl
    simp only [simB, zbo, Nat.reduceBEq, own0, ↓reduceIte, Nat.reduceEqDiff, Nat.reduceAdd, simL, h0, h3, q1, q2]
    rw [hv0]
    exact finish_tree _ _ _ _ _ _ (.int .i64 0) _ _ (by simp only [zfk, ↓reduceIte]) rfl rfl
  · obtain ⟨y, rfl⟩ : ∃ y, x = y + 1 := ⟨x - 1, by omega⟩
    have p2 : ((y + 1 : Nat) : Int) - 1 = (y : Int) := by omega
    rw [p2] at h3
    have p6 : (y : Int) ≥ 0 := by omega
    have p7 : (0 : Int) ≤ (y : Int) := by omega
    have p3 : (y : Int) < l.length := by omega
    have p4 : y < l.length := by omega
    have e1 := i_sub Try.prog 3 (y : Int) 1 (by omega) (by omega)
    by_cases hz : l.getD y 0 = 0
    · have p5 : (((l.getD y 0 : Nat) : Int) == 0) = true := by rw [hz]; rfl
      simp only [simB, zbo, Nat.reduceBEq, own0, ↓reduceIte, Nat.reduceEqDiff, Nat.reduceAdd, simL, h0, h3, p6, p7, p3, e1, Int.toNat_natCast, p4, p5]
      refine ih y _ _ (Nat.lt_succ_self _) rfl ⟨?_, ?_, rfl, by omega, ?_⟩
      · simp only [zfk, ↓reduceIte, Nat.reduceEqDiff, h0]
      · simp only [zfk, ↓reduceIte, Nat.reduceEqDiff]
      · rw [← hv, val_take_succ _ _ p4, hz, Nat.mul_zero, Nat.add_zero]
    · have p5 : (((l.getD y 0 : Nat) : Int) == 0) = false := by
        rw [beq_eq_false_iff_ne]; omega
      have q2 : ¬ ((y : Int) < 0) := by omega
      have c1 := len32_call n d (l.getD y 0) (getD_lt l hl y)
      have hb := blen_le (l.getD y 0) 32 (getD_lt l hl y)
      have e2 := i_mul Try.prog 3 32 (y : Int) (by omega) (by omega)
      have e3 := i_add Try.prog 3 (32 * (y : Int)) (blen (l.getD y 0) : Int) (by omega) (by omega)
      simp only [simB, zbo, Nat.reduceBEq, own0, ↓reduceIte, Nat.reduceEqDiff, Nat.reduceAdd, simL, h0, h3, p6, p7, p3, e1, e2, e3, Int.toNat_natCast, p4, p5, q2, c1]
      rw [blen_val l hl y hz hv]
      exact finish_tree _ _ _ _ _ _ (.int .i64 ((32 * y + blen (l.getD y 0) : Nat) : Int)) _ _ (by simp only [zfk, ↓reduceIte, Nat.reduceEqDiff]; congr 1) rfl rfl
end Go.Ab

/- Shifts by limbs: plain arithmetic. -/
namespace Go.Ab
theorem shl_or (x c r : Nat) (hc : c < 2 ^ r) : c ||| (x * 2 ^ r) = c + x * 2 ^ r := by
  rw [Nat.or_comm, Nat.mul_comm, ← Nat.two_pow_add_eq_or_of_lt hc, Nat.add_comm]
theorem val_mod (l : List Nat) (h : Limbs l) : val l % B = l.getD 0 0 := by
  cases l with
  | nil => rfl
  | cons x l =>
    show (x + B * val l) % B = x
    rw [Nat.add_mul_mod_self_left, Nat.mod_eq_of_lt h.head]
theorem val_drop (l : List Nat) (h : Limbs l) (w : Nat) : val (l.drop w) = val l / B ^ w := by
  have h1 : val l = val (l.take w) + B ^ (l.take w).length * val (l.drop w) := by
    rw [← val_app, List.take_append_drop]
  by_cases hw : w ≤ l.length
  · rw [show (l.take w).length = w by rw [List.length_take]; omega] at h1
    rw [h1, Nat.add_mul_div_left _ _ (Nat.pow_pos (by decide)), Nat.div_eq_of_lt (val_take_lt l h w), Nat.zero_add]
  · rw [List.drop_of_length_le (by omega)]
    have h2 := val_lt l h
    have h3 : B ^ l.length ≤ B ^ w := Nat.pow_le_pow_right (by decide) (by omega)
    rw [Nat.div_eq_of_lt (by omega)]; rfl
end Go.Ab

/- What the program's Shl, Shr compute. Conditions: limbs in range, not too many. -/
namespace Go.Ab
open Go.Proofs
set_option maxRecDepth 100000
set_option linter.unusedSimpArgs false

theorem i_quo (P : Program) (t : TypeId) (a b : Nat) (hb : 0 < b) (ha : a ≤ 9223372036854775807) : binA P .quo t (.int .i64 (a : Int)) (.int .i64 (b : Int)) = some (.int .i64 ((a / b : Nat) : Int)) := by
  have h1 : (a : Int).tdiv (b : Int) = ((a / b : Nat) : Int) := by rw [Int.tdiv_eq_ediv_of_nonneg (by omega)]; exact (Int.natCast_ediv a b).symm
  have h2 : a / b ≤ a := Nat.div_le_self _ _
  simp only [binA, intA, if_true]
  rw [if_neg (by omega), h1]
  generalize a / b = q at *
  rw [i64_wrap _ (by omega) (by omega)]
theorem i_rem (P : Program) (t : TypeId) (a b : Nat) (hb : 0 < b) : binA P .rem t (.int .i64 (a : Int)) (.int .i64 (b : Int)) = some (.int .i64 ((a % b : Nat) : Int)) := by
  simp only [binA, intA, if_true]
  rw [if_neg (by omega), Int.tmod_eq_emod_of_nonneg (by omega)]
  rfl
theorem st31 (s : St) (p t : Nat) (o : List Nat) (i x : Nat) (h : s p = ⟨t, .buf (encC o)⟩) (hi : i < o.length) : storeA Try.prog 56 s (.ptr p t i) (.int .u32 (x : Int)) = some (upd s p ⟨t, .buf (encC (o.set i x))⟩) := by
  simp [storeA, settle, h, cellOk, esz31, encC_len, hi, encC_set]
theorem ia_own (s : St) (p t : Nat) (o : List Nat) (len : Nat) (k : IntKind) (z : Int) (h : s p = ⟨t, .buf (encC o)⟩) (h0 : 0 ≤ z) (h1 : z < len) : indexAddrA Try.prog 23 s (.own p t 0 len 1) (.int k z) = some (.ptr p t z.toNat) := by
  have : live s p t = true := by simp [live, cellsAt, h]
  simp only [indexAddrA, tk22, esz31, Option.bind_some, this, h0, h1, and_self, if_true, Nat.mul_one, Nat.zero_add]
theorem ld_own (s : St) (p t : Nat) (o : List Nat) (i : Nat) (h : s p = ⟨t, .buf (encC o)⟩) (hi : i < o.length) : loadA Try.prog 56 s (.ptr p t i) = some (.int .u32 ((o.getD i 0 : Nat) : Int)) := by
  simp only [loadA, ldC, h, if_true, Option.bind_some, partA, sh31]
  exact encC_get o i hi
end Go.Ab

/- Products limb by limb: plain arithmetic. -/
namespace Go.Ab
theorem digit (o : List Nat) (h : Limbs o) (j : Nat) : val o / B ^ j % B = o.getD j 0 := by
  rw [← val_drop o h, val_mod _ (h.drop j), List.getD_eq_getElem?_getD, List.getD_eq_getElem?_getD, List.getElem?_drop, Nat.add_zero]
theorem getD_set_ne (o : List Nat) (i j v : Nat) (h : i ≠ j) : (o.set i v).getD j 0 = o.getD j 0 := by
  rw [List.getD_eq_getElem?_getD, List.getD_eq_getElem?_getD, List.getElem?_set_ne h]
end Go.Ab

/- What the program's Mul computes. Conditions: limbs in range, not too many. -/
namespace Go.Ab
open Go.Proofs
set_option maxRecDepth 100000
set_option linter.unusedSimpArgs false

end Go.Ab

/- Quotients bit by bit: plain arithmetic. -/
namespace Go.Ab
theorem getD_lt' (l : List Nat) (hl : Limbs l) (i : Nat) : l.getD i 0 < 4294967296 := by
  by_cases h : i < l.length
  · rw [List.getD_eq_getElem?_getD, List.getElem?_eq_getElem h]
    exact hl _ (List.getElem_mem h)
  · rw [List.getD_eq_getElem?_getD, List.getElem?_eq_none (by omega)]; decide
end Go.Ab

/- The calls of the program's number functions, upon any value that shows a number. Conditions: at most 1000 limbs. -/
namespace Go.Ab
open Go.Proofs
set_option maxRecDepth 100000
set_option linter.unusedSimpArgs false

def Sh (w : AV) (l : List Nat) : Prop := ∃ g, w = .sl (encC l) l.length g
theorem sh_L (b : Gk) (l : List Nat) : Sh (encL b l) l := ⟨_, rfl⟩
theorem Sh.arg {w : AV} {l : List Nat} (h : Sh w l) (f : FuncId) (s : St) (j : Nat) : ∃ b, argA cfg0 f s j w = some (.tree (encL b l)) := by
  obtain ⟨g, rfl⟩ := h
  cases g with
  | tight => exact ⟨.t, rfl⟩
  | loose => exact ⟨.l, rfl⟩
  | nil => exact ⟨.n, rfl⟩
  | tok p t => exact ⟨.l, rfl⟩
theorem Sh.gives {w : AV} {l : List Nat} (h : Sh w l) (v : AV) : givesOf w (.tree v) = none := by
  obtain ⟨g, rfl⟩ := h
  cases g <;> rfl
theorem Sh.lends {w : AV} {l : List Nat} (h : Sh w l) (v : AV) : lendsOf w (.tree v) = none := by
  obtain ⟨g, rfl⟩ := h
  cases g <;> rfl
theorem callA_S1 (call : FuncId → List Arg → Option Out) (d : Nat) (s : St) (f : FuncId) {w : AV} {l : List Nat} (h : Sh w l) (v : AV) (hc : ∀ b, call f [.tree (encL b l)] = some (.tree v, [[]])) : callA cfg0 call d s f [w] = some (v, s) := by
  obtain ⟨b, e⟩ := h.arg f s 0
  simp [callA, argsA, e, givesL, lendsL, h.gives, h.lends, hc, backA, resA]
def Num (w : AV) (v : Nat) : Prop := ∃ l, Sh w l ∧ Limbs l ∧ l.length ≤ 1000 ∧ val l = v
theorem Num.lt {w : AV} {v : Nat} (h : Num w v) : ∃ k, k ≤ 1000 ∧ v < B ^ k := by
  obtain ⟨l, hs, hl, hn, rfl⟩ := h
  exact ⟨l.length, hn, val_lt l hl⟩
section
variable (n d : Nat) (hn : 100000 ≤ n) (D : Nat) (s : St)
include hn
theorem cLen {w : AV} {v : Nat} (h : Num w v) : callA cfg0 (evalFn Try.prog cfg0 n (d+2)) D s 43 [w] = some (.int .i64 ((blen v : Nat) : Int), s) := by
  obtain ⟨l, hs, hl, hk, rfl⟩ := h
  exact callA_S1 _ D s 43 hs _ fun b => len_eq n d b l hl (by omega) (by omega)
end
theorem lenR (s : St) (v : Nat) : lenA Try.prog 23 s (encR v) = some (.int .i64 ((digs v).length : Int)) := zdx s _ _
theorem digs_len0 (v : Nat) : (digs v).length = 0 ↔ v = 0 := by
  constructor
  · intro h
    have := val_digs v
    rw [List.length_eq_zero_iff.mp h] at this
    exact this.symm
  · intro h; subst h; rw [digs_0]; rfl
theorem s_or (P : Program) (t : TypeId) (a b : Nat) (h : a < 4294967296) (h' : b < 4294967296) : binA P .or t (.int .u32 (a : Int)) (.int .u32 (b : Int)) = some (.int .u32 (((a ||| b) : Nat) : Int)) := by
  have h1 : (BitVec.ofInt 32 (a : Int) ||| BitVec.ofInt 32 (b : Int)).toNat = a ||| b := by
    rw [BitVec.toNat_or, BitVec.ofInt_natCast, BitVec.ofInt_natCast, BitVec.toNat_ofNat, BitVec.toNat_ofNat, Nat.mod_eq_of_lt h, Nat.mod_eq_of_lt h']
  have h2 := Nat.or_lt_two_pow (n := 32) h h'
  show some (AV.int .u32 (IntKind.u32.wrap ((BitVec.ofInt 32 (a : Int) ||| BitVec.ofInt 32 (b : Int)).toNat : Int))) = _
  rw [h1]
  simp only [IntKind.wrap, IntKind.bits, IntKind.signed]
  congr 2
  generalize a ||| b = c at *
  simp; omega
end Go.Ab

/- More plain arithmetic of the limb statements. -/
namespace Go.Ab
def placeN (v n : Int) : Int := if v.tmod n < 0 then v.tmod n + n else v.tmod n
theorem place_range (v n : Int) (hn : 0 < n) : 0 ≤ placeN v n ∧ placeN v n < n := by
  have h1 := Int.tmod_lt_of_pos v hn
  have h2 : -n < v.tmod n := by
    have := Int.lt_tmod_of_pos v hn
    omega
  unfold placeN
  split <;> omega
end Go.Ab

/- Helpers of all statements: calls, places, copies, sameness. Conditions: limbs in range. -/
namespace Go.Ab
open Go.Proofs
set_option maxRecDepth 100000
set_option linter.unusedSimpArgs false

section
variable {P : Program} {cfg : Cfg} {call : FuncId → List Arg → Option Out}
def callV (cfg : Cfg) (call : FuncId → List Arg → Option Out) (d : Nat) (s : St) (vs : List AV) : AV → Option (AV × St)
  | .fn f caps => callA cfg call d s f (vs ++ caps)
  | _ => none
@[congr] theorem callV_congr {d : Nat} {s s' : St} {vs vs' : List AV} {v v' : AV} (h : v = v') (h1 : s = s') (h2 : vs = vs') : callV cfg call d s vs v = callV cfg call d s' vs' v' := by rw [h, h1, h2]
theorem backA_trees (s : St) : ∀ vs : List AV, backA s vs (vs.map Arg.tree) (vs.map fun _ => []) = some s
  | [] => rfl
  | v :: vs => by simp only [List.map_cons, backA, gives_tree, backA_trees s vs]
theorem callA_trees {d : Nat} {s : St} {f : FuncId} {vs : List AV} {v : AV} (ht : vs.all isTree = true) (hc : call f (vs.map Arg.tree) = some (.tree v, vs.map fun _ => [])) : callA cfg call d s f vs = some (v, s) := by
  simp only [callA, argsA_trees f s vs 0 ht, Option.bind_some, givesL_trees, lendsL_trees vs ht, List.nodup_nil, List.not_mem_nil, false_implies, implies_true, and_self, if_true, hc, List.foldl_nil, ite_self, backA_trees, resA]
theorem callQ_trees {f : FuncId} {vs : List AV} {v : AV} (ht : vs.all isTree = true) (hc : call f (vs.map Arg.tree) = some (.tree v, vs.map fun _ => [])) : callQ call f vs = some v := by
  simp only [callQ, ht, if_true, hc, Option.bind_some]
end
theorem i_remZ (P : Program) (t : TypeId) (a b : Int) (hb : b ≠ 0) : binA P .rem t (.int .i64 a) (.int .i64 b) = some (.int .i64 (a.tmod b)) := by
  simp only [binA, intA, if_true]
  rw [if_neg hb]
theorem place_eq (n d : Nat) (v m : Int) (hm : 0 < m) (hm' : m ≤ 1000000) : evalFn Try.prog cfg0 n (d+1) 18 [.tree (.int .i64 v), .tree (.int .i64 m)] = some (.tree (.int .i64 (placeN v m)), [[], []]) := by
  rw [evalFn_go _ Try.func18 (by unfold Try.f18; rfl) (by unfold Try.f18; decide) (Nat.le_of_ble_eq_true (by unfold Try.f18; rfl)) (by kernel_rfl)]
  have hr := place_range v m hm
  have e1 := i_remZ Try.prog 3 v m (by omega)
  have h1 := Int.tmod_lt_of_pos v hm
  unfold placeN at *
  by_cases h : v.tmod m < 0
  · rw [if_pos h] at hr ⊢
    have e2 := i_add Try.prog 3 (v.tmod m) m (by omega) (by omega)
    simp only [simB, zbo, Nat.reduceBEq, own0, ↓reduceIte, Nat.reduceEqDiff, Nat.reduceAdd, simA, zdz, e1, h, e2]
    exact finish_tree _ _ _ _ _ _ (.int .i64 (v.tmod m + m)) _ _ (by simp only [zfk, ↓reduceIte]) rfl rfl
  · rw [if_neg h] at hr ⊢
    simp only [simB, zbo, Nat.reduceBEq, own0, ↓reduceIte, Nat.reduceEqDiff, Nat.reduceAdd, simA, zdz, e1, h]
    exact finish_tree _ _ _ _ _ _ (.int .i64 (v.tmod m)) _ _ (by simp only [zfk, ↓reduceIte]) rfl rfl
end Go.Ab

/- Numbers with a sign: plain arithmetic. No conditions but those told. -/
namespace Go.Ab
def chkN (neg : Bool) (l : List Nat) : Bool := decide (l.length ≤ 12) && (decide (l.length = 0) && !neg || decide (0 < l.length) && decide (l.getD (l.length - 1) 0 ≠ 0))
def numZ (neg : Bool) (l : List Nat) : Int := if chkN neg l = true then (if neg = true then -((val l : Nat) : Int) else ((val l : Nat) : Int)) else 0
def mkZ (z : Int) : Int × Bool := if z.natAbs < B ^ 12 then (z, true) else (0, false)
theorem mkZ_fit {z : Int} (h : z.natAbs < B ^ 12) : mkZ z = (z, true) := if_pos h
theorem getLast_getD (l : List Nat) (h : 0 < l.length) : l.getLast? = some (l.getD (l.length - 1) 0) := by
  rw [List.getLast?_eq_getElem?, List.getD_eq_getElem?_getD, List.getElem?_eq_getElem (by omega)]; rfl
theorem digs_last (v : Nat) (h : 0 < (digs v).length) : (digs v).getD ((digs v).length - 1) 0 ≠ 0 := by
  induction v using Nat.strongRecOn with
  | ind v ih =>
    by_cases hv : v = 0
    · subst hv; rw [digs_0] at h; simp at h
    · rw [digs_pos v hv]
      by_cases hq : v / B = 0
      · rw [hq, digs_0]
        have : v % B = v := Nat.mod_eq_of_lt (by
          have := Nat.div_add_mod v B; have := Nat.mod_lt v (show 0 < B by decide); rw [hq] at *; omega)
        simpa [this] using hv
      · have hl : 0 < (digs (v / B)).length := by
          rw [digs_pos _ hq]; simp
        have := ih (v / B) (Nat.div_lt_self (by omega) (by decide)) hl
        rw [List.length_cons, show (digs (v / B)).length + 1 - 1 = ((digs (v / B)).length - 1) + 1 by omega, List.getD_cons_succ]
        exact this
theorem digs_len_le (v k : Nat) : (digs v).length ≤ k ↔ v < B ^ k := by
  constructor
  · intro h
    have := val_lt (digs v) (limbs_digs v)
    rw [val_digs] at this
    exact Nat.lt_of_lt_of_le this (Nat.pow_le_pow_right (by decide) h)
  · exact digs_len v k
theorem chk_digs (neg : Bool) (v : Nat) (h : v = 0 → neg = false) : chkN neg (digs v) = decide (v < B ^ 12) := by
  unfold chkN
  by_cases hv : v = 0
  · subst hv
    rw [digs_0, h rfl]
    have : 0 < B ^ 12 := Nat.pow_pos (by decide)
    simp [this]
  · have hp : 0 < (digs v).length := by rw [digs_pos v hv]; simp
    have hl := digs_last v hp
    have h12 : decide ((digs v).length ≤ 12) = decide (v < B ^ 12) := by
      rw [Bool.eq_iff_iff]; simp only [decide_eq_true_eq]; exact digs_len_le v 12
    rw [h12]
    have h1 : decide (0 < (digs v).length) = true := decide_eq_true hp
    have h2 : decide ((digs v).getD ((digs v).length - 1) 0 ≠ 0) = true := decide_eq_true hl
    rw [h1, h2]
    simp
theorem chk_val {neg : Bool} {l : List Nat} (hl : Limbs l) (h : chkN neg l = true) : digs (val l) = l ∧ val l < B ^ 12 ∧ l.length ≤ 12 ∧ (val l = 0 → l = [] ∧ neg = false) := by
  unfold chkN at h
  simp only [Bool.and_eq_true, Bool.or_eq_true, decide_eq_true_eq, Bool.not_eq_true'] at h
  obtain ⟨h12, h⟩ := h
  have hd : digs (val l) = l := by
    refine digs_val l hl fun x hx => ?_
    rcases h with ⟨h0, _⟩ | ⟨h0, h1⟩
    · have : l = [] := List.length_eq_zero_iff.mp h0
      subst this; cases hx
    · rw [getLast_getD l h0] at hx
      cases hx
      exact h1
  refine ⟨hd, Nat.lt_of_lt_of_le (val_lt l hl) (Nat.pow_le_pow_right (by decide) h12), h12, fun h0 => ?_⟩
  rw [h0, digs_0] at hd
  subst hd
  rcases h with ⟨_, h1⟩ | ⟨h1, _⟩
  · exact ⟨rfl, h1⟩
  · simp at h1
theorem numZ_not {neg : Bool} {l : List Nat} (h : chkN neg l = false) : numZ neg l = 0 := by simp [numZ, h]
theorem numZ_is {neg : Bool} {l : List Nat} (hl : Limbs l) (h : chkN neg l = true) : (numZ neg l).natAbs = val l ∧ decide (numZ neg l < 0) = neg ∧ digs (numZ neg l).natAbs = l := by
  obtain ⟨hd, _, _, h0⟩ := chk_val hl h
  have e : numZ neg l = if neg = true then -((val l : Nat) : Int) else ((val l : Nat) : Int) := if_pos h
  cases neg with
  | false =>
    simp only [Bool.false_eq_true, if_false] at e
    have : (numZ false l).natAbs = val l := by rw [e]; simp
    refine ⟨this, ?_, by rw [this]; exact hd⟩
    rw [e, decide_eq_false_iff_not]; omega
  | true =>
    simp only [if_true] at e
    have hn : val l ≠ 0 := fun h => by have := (h0 h).2; simp at this
    have : (numZ true l).natAbs = val l := by rw [e]; omega
    refine ⟨this, ?_, by rw [this]; exact hd⟩
    rw [e, decide_eq_true_eq]; omega
theorem numZ_lt (neg : Bool) (l : List Nat) (hl : Limbs l) : (numZ neg l).natAbs < B ^ 12 := by
  cases h : chkN neg l with
  | false => rw [numZ_not h]; exact Nat.pow_pos (by decide)
  | true => rw [(numZ_is hl h).1]; exact (chk_val hl h).2.1
def sgn (neg : Bool) (v : Nat) : Int := if neg = true then -(v : Int) else (v : Int)
theorem sgn_abs (neg : Bool) (v : Nat) : (sgn neg v).natAbs = v := by
  unfold sgn; split <;> simp
theorem sgn_neg (neg : Bool) (v : Nat) : decide (sgn neg v < 0) = (neg && decide (v ≠ 0)) := by
  cases neg with
  | false =>
    simp only [sgn, Bool.false_eq_true, if_false, Bool.false_and, decide_eq_false_iff_not]; omega
  | true =>
    simp only [sgn, if_true, Bool.true_and]
    by_cases h : v = 0
    · subst h; decide
    · rw [decide_eq_true (show (-(v : Int) < 0) by omega), decide_eq_true h]
theorem sgn_of (z : Int) : sgn (decide (z < 0)) z.natAbs = z := by
  unfold sgn
  by_cases h : z < 0
  · simp [h]; omega
  · simp [h]; omega
end Go.Ab

/- Numbers with a sign in memory cells; which may be. Conditions: limbs in range. -/
namespace Go.Ab
open Go.Proofs
set_option maxRecDepth 100000
set_option linter.unusedSimpArgs false

abbrev encA (neg : Bool) (g : Gk) (l : List Nat) : AV := .agg [.bool neg, encL g l]
def encZ (z : Int) : AV := .agg [.bool (decide (z < 0)), encR z.natAbs]
theorem encZ_0 : encZ 0 = encA false .n [] := by
  simp only [encZ, encA, encR, Int.natAbs_zero, digs_0, if_true]; rfl

theorem tk24 : tkOf Try.prog 25 = .st := by kernel_rfl
theorem zew : zeroOf Try.prog 25 = some [.bool false, .sl [] 0 .nil] := by kernel_rfl
theorem sh24 : shOf Try.prog 25 = some (true, 2) := by kernel_rfl
theorem sh22 : shOf Try.prog 23 = some (false, 1) := by kernel_rfl
theorem sh4 : shOf Try.prog 4 = some (false, 1) := by kernel_rfl
theorem esz24 : esz Try.prog 25 = some 2 := by kernel_rfl
theorem esz22 : esz Try.prog 23 = some 1 := by kernel_rfl
theorem esz4 : esz Try.prog 4 = some 1 := by kernel_rfl
theorem pl24 : placesA Try.prog 25 = some [(0, 1), (1, 1)] := by kernel_rfl
theorem fd24_0 : fieldOf Try.prog 25 0 = some (4, 0) := by kernel_rfl
theorem fd24_1 : fieldOf Try.prog 25 1 = some (23, 1) := by kernel_rfl

section
variable {P : Program} {cfg : Cfg} {call : FuncId → List Arg → Option Out} {d : Option Tmp} {ty : TypeId} {pos : String} {af : Array Edge} {g : Option (Nat × Bool)} {t : Nat} {q : Bool} {env : Env} {s : St}
def boxA (d : Nat) (s : St) (v : AV) : Option (AV × St) := (settle s v).bind fun x => (cellsOf x.1).map fun xs => (.ptr d ((x.2 d).t + 1) 0, upd x.2 d ⟨(x.2 d).t + 1, .buf xs⟩)
def boxT (s : St) (v : AV) : Option (AV × St) := (settled v).bind fun v => (cellsOf v).map fun xs => (.rptr xs, s)
theorem zeh (u : TypeId) (x : Operand) : opA P cfg call q ⟨d, .box u x, ty, pos, af, g⟩ t env s = if cfg.ownAt ("@" ++ pos) = true then boxT s (ev env x) else boxA t s (ev env x) := rfl
theorem zei (u : TypeId) : opA P cfg call q ⟨d, .alloc u, ty, pos, af, g⟩ t env s = (zeroOf P u).map fun z => (.ptr t ((s t).t + 1) 0, upd s t ⟨(s t).t + 1, .buf z⟩) := rfl
theorem zej (u : TypeId) (x : Operand) (i : Nat) : opA P cfg call q ⟨d, .fieldAddr u x i, ty, pos, af, g⟩ t env s = (fieldAddrA P u s (ev env x) i).map (·, s) := rfl
theorem zek (u : TypeId) (x : Operand) (i : Nat) : opA P cfg call q ⟨d, .field u x i, ty, pos, af, g⟩ t env s = (fieldA P u (ev env x) i).map (·, s) := rfl
def buildA (P : Program) (u : TypeId) (parts : List (Nat × AV)) : Option AV := (zeroOf P u).bind fun z => match tkOf P u with
  | .st => (placesA P u).bind fun pl => (fillA (fun i => pl[i]?) z parts).map .agg
  | .arr _ e => (esz P e).bind fun n => (fillA (fun i => some (i * n, n)) z parts).map .agg
  | _ => none
def buildO (P : Program) (u : TypeId) (s : St) (ps : List (Nat × AV)) : Option (AV × St) := (settleP s ps).bind fun x => (zeroOf P u).bind fun z => match tkOf P u with
  | .st => (placesA P u).bind fun pl => ((fillA (fun i => pl[i]?) z x.1).map AV.agg).map (·, x.2)
  | _ => none
theorem zel (u : TypeId) (parts : Array (Nat × Operand)) : opA P cfg call q ⟨d, .build u parts, ty, pos, af, g⟩ t env s = if cfg.ownAt ("#" ++ pos) = true then (if q = true then none else buildO P u s (parts.toList.map fun x => (x.1, ev env x.2))) else if cfg.ownAt ("&" ++ pos) = true then (buildG P u (parts.toList.map fun x => (x.1, ev env x.2))).map (·, s) else (buildA P u (parts.toList.map fun x => (x.1, ev env x.2))).map (·, s) := by
  simp only [opA, buildA]
  by_cases h : cfg.ownAt ("#" ++ pos) = true
  · rw [if_pos h, if_pos h]; rfl
  · rw [if_neg h, if_neg h]
    by_cases h' : cfg.ownAt ("&" ++ pos) = true
    · rw [if_pos h', if_pos h']
    rw [if_neg h', if_neg h']
    cases zeroOf P u with
    | none => rfl
    | some z =>
      simp only [Option.bind_some]
      cases tkOf P u <;> first | rfl | (simp only [Option.map_bind]; rfl)
end
theorem zem (d : Nat) (s : St) (xs : List AV) : boxA d s (.agg xs) = some (.ptr d ((s d).t + 1) 0, upd s d ⟨(s d).t + 1, .buf xs⟩) := rfl
theorem zen (j : Nat) : (dead j).t = 0 := rfl
def cellsE (e : Ent) (k : Nat) : Option (List AV) := match e.c with
  | .buf xs => if e.t = k then some xs else none
  | .frz xs => if e.t = k then some xs else none
  | .mix xs _ => if e.t = k then some xs else none
  | _ => none
theorem cellsAt_E (s : St) (p k : Nat) : cellsAt s p k = cellsE (s p) k := by
  unfold cellsAt cellsE
  rcases s p with ⟨t', c⟩
  cases c <;> rfl
theorem cellsE_buf (t k : Nat) (xs : List AV) : cellsE ⟨t, .buf xs⟩ k = if t = k then some xs else none := rfl
def ldE (P : Program) (u : TypeId) (e : Ent) (k off : Nat) : Option AV := ldC P u e k off
theorem ldE_buf (P : Program) (u : TypeId) (t k off : Nat) (xs : List AV) : ldE P u ⟨t, .buf xs⟩ k off = (cellsE ⟨t, .buf xs⟩ k).bind fun xs => partA P u xs off := by
  rw [cellsE_buf]
  show (if t = k then partA P u xs off else none) = _
  by_cases h : t = k
  · rw [if_pos h, if_pos h]; rfl
  · rw [if_neg h, if_neg h]; rfl
theorem zeo (P : Program) (u : TypeId) (s : St) (p k off : Nat) : loadA P u s (.ptr p k off) = ldE P u (s p) k off := by
  rfl
theorem zep (t k : Nat) (a b : AV) : ldE Try.prog 25 ⟨t, .buf [a, b]⟩ k 0 = if t = k then some (.agg [a, b]) else none := by
  rw [ldE_buf, cellsE_buf]
  by_cases e : t = k
  · simp [e, partA, sh24]
  · simp [e]
theorem zeq (t k : Nat) (a b : AV) : ldE Try.prog 4 ⟨t, .buf [a, b]⟩ k 0 = if t = k then some a else none := by
  rw [ldE_buf, cellsE_buf]
  by_cases e : t = k
  · simp [e, partA, sh4]
  · simp [e]
theorem zer (t k : Nat) (a b : AV) : ldE Try.prog 23 ⟨t, .buf [a, b]⟩ k 1 = if t = k then some b else none := by
  rw [ldE_buf, cellsE_buf]
  by_cases e : t = k
  · simp [e, partA, sh22]
  · simp [e]
def stE (e : Ent) (p k : Nat) (s : St) (ys : List AV) : Option St :=
  match e with | ⟨t', .buf xs⟩ => if t' = k then (if ys.length ≤ xs.length then some (upd s p ⟨t', .buf (splice xs 0 ys)⟩) else none) else none | _ => none
theorem zes (s : St) (p k : Nat) (a b : AV) : storeA Try.prog 25 s (.ptr p k 0) (.agg [a, b]) = stE (s p) p k s [a, b] := by
  simp only [storeA, settle, Option.bind_some, stE]
  cases h : s p with
  | mk t c => cases c <;> simp [esz24]
theorem zet (t k p : Nat) (s : St) (a b a' b' : AV) : stE ⟨t, .buf [a', b']⟩ p k s [a, b] = if t = k then some (upd s p ⟨t, .buf [a, b]⟩) else none := by
  simp [stE, splice]
def faE (e : Ent) (p k off : Nat) : Option AV := if (cellsE e k).isSome = true then some (.ptr p k off) else none
theorem fa_0 (s : St) (p k : Nat) : fieldAddrA Try.prog 25 s (.ptr p k 0) 0 = faE (s p) p k 0 := by
  simp only [fieldAddrA, fd24_0, esz4, live, cellsAt_E, faE, Nat.zero_add]
theorem fa_1 (s : St) (p k : Nat) : fieldAddrA Try.prog 25 s (.ptr p k 0) 1 = faE (s p) p k 1 := by
  simp only [fieldAddrA, fd24_1, esz22, live, cellsAt_E, faE, Nat.zero_add]
theorem zeu (t p k off : Nat) (xs : List AV) : faE ⟨t, .buf xs⟩ p k off = if t = k then some (.ptr p k off) else none := by
  rw [faE, cellsE_buf]
  by_cases e : t = k <;> simp [e]
theorem bd_0 : buildA Try.prog 25 [] = some (encA false .n []) := by
  simp only [buildA, zew, tk24, pl24, Option.bind_some, fillA]; rfl
theorem bd_2 (b : Bool) (g : Gk) (l : List Nat) : buildA Try.prog 25 [(0, .bool b), (1, encL g l)] = some (encA b g l) := by
  simp only [buildA, zew, tk24, pl24, Option.bind_some]
  cases g <;> rfl
theorem zev (b : Bool) (v : Nat) : buildA Try.prog 25 [(0, .bool b), (1, encR v)] = some (.agg [.bool b, encR v]) := bd_2 _ _ _
theorem fd_1 (a b : AV) : fieldA Try.prog 25 (.agg [a, b]) 1 = some b := by
  simp [fieldA, fd24_1, partA, sh22]

theorem simN : type_of% (And.intro @zeh (And.intro @zei (And.intro @zej (And.intro @zek (And.intro @zel (And.intro @zem (And.intro @zen (And.intro @zeo (And.intro @zep (And.intro @zeq (And.intro @zer (And.intro @zes (And.intro @zet (And.intro @fa_0 (And.intro @fa_1 (And.intro @zeu (And.intro @bd_0 (And.intro @bd_2 (And.intro @zev (And.intro @fd_1 @zew)))))))))))))))))))) := And.intro @zeh (And.intro @zei (And.intro @zej (And.intro @zek (And.intro @zel (And.intro @zem (And.intro @zen (And.intro @zeo (And.intro @zep (And.intro @zeq (And.intro @zer (And.intro @zes (And.intro @zet (And.intro @fa_0 (And.intro @fa_1 (And.intro @zeu (And.intro @bd_0 (And.intro @bd_2 (And.intro @zev (And.intro @fd_1 @zew)))))))))))))))))))
theorem finish_c (k : Bool) (xs : List Arg) (a p e : Nat) (x y : AV) (env : Env) (s : St) (os : List (List AV)) (ha : env a = .ptr p e 0) (hs : s p = ⟨e, .buf [x, y]⟩) (ho : outsA s 0 xs = some os) :
    finishP Try.prog k xs #[.cell a 25] env s = some (.tree (.agg [x, y]), os) := by
  rw [finishP_c1, ha, zeo, hs, zep, if_pos rfl]
  simp only [Option.bind_some, settle, ho, Option.map_some]
theorem finish_ct (k : Bool) (xs : List Arg) (a p e u : Nat) (x y : AV) (b : Bool) (env : Env) (s : St) (os : List (List AV)) (ha : env a = .ptr p e 0) (hs : s p = ⟨e, .buf [x, y]⟩) (hu : env u = .bool b) (ho : outsA s 0 xs = some os) :
    finishP Try.prog k xs #[.cell a 25, .tmp u] env s = some (.tree (.tup [.agg [x, y], .bool b]), os) := by
  rw [finishP_c2, ha, zeo, hs, zep, if_pos rfl, hu]
  simp only [Option.bind_some, settleL, settle, Option.map_some, ho]

theorem unA_not' (b : Bool) : unA .not (.bool b) = some (.bool (!b)) := rfl
theorem neq0 (x : Nat) : ((x : Int) != 0) = decide (x ≠ 0) := by
  rw [Bool.eq_iff_iff]; simp
set_option maxHeartbeats 2000000 in
theorem check_eq (n d : Nat) (neg : Bool) (g : Gk) (l : List Nat) (hl : Limbs l) : evalFn Try.prog cfg0 n (d+1) 69 [.tree (encA neg g l)] = some (.tree (.bool (chkN neg l)), [[]]) := by
  rw [evalFn_go _ Try.func69 (by unfold Try.f69; rfl) (by unfold Try.f69; decide) (Nat.le_of_ble_eq_true (by unfold Try.f69; rfl)) (by kernel_rfl)]
  unfold chkN
  by_cases h : (l.length : Int) ≤ 12
  rotate_left
  · have e1 : decide (l.length ≤ 12) = false := decide_eq_false (by omega)
    simp only [simB, zbo, Nat.reduceBEq, own0, ↓reduceIte, Nat.reduceEqDiff, Nat.reduceAdd, simA, simL, simN, Nat.zero_add, st0_1, h, e1, Bool.false_and]
    exact finish_tree _ _ _ _ _ _ (.bool false) _ _ (by simp only [zfk, ↓reduceIte]) rfl rfl
  have e1 : decide (l.length ≤ 12) = true := decide_eq_true (by omega)
  by_cases hz : l = []
  · subst hz
    have p1 : (((([] : List Nat).length : Nat) : Int) == 0) = true := rfl
    cases neg with
    | false =>
      simp only [simB, zbo, Nat.reduceBEq, own0, ↓reduceIte, Nat.reduceEqDiff, Nat.reduceAdd, simA, simL, simN, Nat.zero_add, st0_1, h, p1, unA_not', Bool.not_false]
      exact finish_tree _ _ _ _ _ _ (.bool true) _ _ (by simp only [zfk, ↓reduceIte]) rfl rfl
    | true =>
      have p2 : ¬ ((([] : List Nat).length : Nat) : Int) > 0 := by simp
      simp only [simB, zbo, Nat.reduceBEq, own0, ↓reduceIte, Nat.reduceEqDiff, Nat.reduceAdd, simA, simL, simN, Nat.zero_add, st0_1, h, p1, p2, unA_not', Bool.not_true]
      exact finish_tree _ _ _ _ _ _ (.bool false) _ _ (by simp only [zfk, ↓reduceIte]) rfl rfl
  · have hp : 0 < l.length := List.length_pos_iff.mpr hz
    have p1 : ((l.length : Int) == 0) = false := by rw [beq_eq_false_iff_ne]; omega
    have p2 : (l.length : Int) > 0 := by omega
    have p3 := i_sub Try.prog 3 (l.length : Int) 1 (by omega) (by omega)
    have p4 : (0 : Int) ≤ (l.length : Int) - 1 := by omega
    have p5 : (l.length : Int) - 1 < l.length := by omega
    have p6 : ((l.length : Int) - 1).toNat = l.length - 1 := by omega
    have p7 : l.length - 1 < l.length := by omega
    have q1 : decide (l.length = 0) = false := decide_eq_false (by omega)
    have q2 : decide (0 < l.length) = true := decide_eq_true hp
    simp only [simB, zbo, Nat.reduceBEq, own0, ↓reduceIte, Nat.reduceEqDiff, Nat.reduceAdd, simA, simL, simN, Nat.zero_add, st0_1, h, p1, p2, p3, p4, p5, p6, p7, e1, q1, q2, neq0, Bool.false_and, Bool.false_or, Bool.true_and]
    exact finish_tree _ _ _ _ _ _ (.bool (decide (l.getD (l.length - 1) 0 ≠ 0))) _ _ (by simp only [zfk, ↓reduceIte]) rfl rfl
end Go.Ab

/- Plain code, walked inside a fence (in a round of a range over a function): where the abstract run answers, the walk goes on. No conditions. -/
namespace Go.Ab
section
variable {P : Program} {cfg : Cfg} {call : FuncId → List Arg → Option Out}

def plainOp : Op → Bool
  | .move _ | .assign _ | .alloc _ | .box .. | .load .. | .store .. | .build .. | .buildSlice .. | .binOp .. | .unOp .. | .indexAddr .. => true
  | .call c => match c.callee with
    | .builtin .len => true
    | _ => false
  | _ => false
def resPlain : Result Next → Prop
  | .ok (.value _) _ => True
  | .ok .skip _ => True
  | .ok _ _ => False
  | .halt _ _ => True
theorem resPlain_val {m : Sem Value} (w : World) : resPlain ((do pure (Next.value (← m)) : Sem Next).run P w) := by
  rw [Sem.run_bind]
  cases m.run P w <;> simp [Result.andThen, resPlain]
theorem plain_res {o : Oper} {ρ : Operand → Value} (h : plainOp o.op = true) (w : World) : resPlain ((execOp ρ o).run P w) := by
  unfold plainOp at h
  split at h
  all_goals try (rename_i hop; simp only [execOp, hop]; first | exact resPlain_val w | (exact trivial) | (rw [Sem.run_pure]; exact trivial))
  · rename_i a b c hop
    simp only [execOp, hop, Sem.run_bind]
    cases (Instr.storeAt a (ρ b) (ρ c)).run P w <;> simp [Result.andThen, resPlain]
  · rename_i c hop
    split at h
    · rename_i hc
      have hb : execOp ρ o = (do pure (.value (← Builtin.len_ c.argTypes o.type (c.args.map ρ)))) := by
        simp only [execOp, hop, resolve, hc]
        rfl
      rw [hb]
      exact resPlain_val w
    · cases h
  · cases h
theorem OpTo.inF {o : Oper} {a : Act} {Γ : G} {s' : St} {r : AV} (h : OpTo P o a Γ s' r) (hp : plainOp o.op = true) {F : Fence} (hF : ∀ f, F.fn f) {n : Nat} {next : Act → World → Prop} {Q : Exit → Act → World → Prop}
    (hn : ∀ Γ' v, Γ'.s = s' → Inv Γ' → Ext Γ Γ' → V Γ' r v → next (a.put o.dst v) Γ'.w) : o.wpIn F n P a Γ.w next Q := by
  have h0 := h next (fun _ _ _ => False) hn
  unfold Oper.wp at h0
  unfold Oper.wpIn
  refine ⟨fun f _ => hF f, ?_⟩
  rw [Oper.semAt_plain F _ _ (by intro c hc; rw [hc] at hp; cases hp)]
  have hr := plain_res (P := P) (ρ := a.eval) hp Γ.w
  revert h0 hr
  generalize (execOp a.eval o).run P Γ.w = x
  cases x with
  | ok x w => cases x <;> simp [resPlain, Oper.upon, Oper.uponIn]
  | halt x w => cases x <;> simp [Oper.upon]
structure EnvV (Γ : G) (env : Env) (a : Act) (m : Nat) : Prop where
  size : a.tmps.size = m
  val : ∀ t, V Γ (env t) (a.tmps.getD t undef)
theorem EnvV.put {Γ Γ' : G} {env : Env} {a : Act} {m : Nat} (h : EnvV Γ env a m) (hE : Ext Γ Γ') {d : Option Tmp} (hd : ∀ x, d = some x → x < m) {r : AV} {v : Value} (hv : V Γ' r v) : EnvV Γ' (setO env d r) (a.put d v) m := by
  obtain ⟨_, h2⟩ := put_tmps a d v
  refine ⟨h2.trans h.size, fun t => ?_⟩
  cases d with
  | none => exact V.ext hE (h.val t)
  | some d =>
    rw [put_get a d v t (by rw [h.size]; exact hd d rfl)]
    simp only [setO]
    by_cases ht : t = d
    · subst ht; simp only [upd_same, if_true]; exact hv
    · rw [upd_ne _ _ ht, if_neg ht]; exact V.ext hE (h.val t)
theorem opsA_in (hcall : FnOk P call) {F : Fence} (hF : ∀ f, F.fn f) {n : Nat} {ops : Array Oper} {rest : List Oper} {Q : Exit → Act → World → Prop} {m : Nat} : ∀ (l : List Oper) (env : Env) (Γ : G) (a : Act) (env' : Env) (s' : St),
    (∀ o ∈ l, plainOp o.op = true) → (∀ o ∈ l, ∀ d, o.dst = some d → d < m) → opsA P cfg call false ops l env Γ.s = some (env', s') → Inv Γ → EnvV Γ env a m →
    (∀ Γ' a', Γ'.s = s' → Inv Γ' → Ext Γ Γ' → EnvV Γ' env' a' m → a'.defers = a.defers → wpListIn F n P ops Q rest a' Γ'.w) → wpListIn F n P ops Q (l ++ rest) a Γ.w
  | [], env, Γ, a, env', s', _, _, h, hI, he, hQ => by
    simp only [opsA, Option.some.injEq, Prod.mk.injEq] at h
    obtain ⟨rfl, rfl⟩ := h
    exact hQ Γ a rfl hI (.refl _) he rfl
  | o :: l, env, Γ, a, env', s', hp, hd, h, hI, he, hQ => by
    have hd1 : ∀ x, o.dst = some x → x < m := hd o (List.mem_cons_self ..)
    have hd2 : ∀ o' ∈ l, ∀ d, o'.dst = some d → d < m := fun o' ho' => hd o' (List.mem_cons_of_mem _ ho')
    have hp1 := hp o (List.mem_cons_self ..)
    have hp2 : ∀ o' ∈ l, plainOp o'.op = true := fun o' ho' => hp o' (List.mem_cons_of_mem _ ho')
    have hwant : ∀ b, wantA ops o env = some b → Region.wanted o (yielded ops a.tmps) = b := fun b hb => wantA_ok hb fun _ _ d _ _ => he.val d
    simp only [opsA] at h
    rw [List.cons_append]
    refine wpListIn_step fun K hK => ?_
    split at h
    · rename_i hw
      rw [hwant true hw]
      simp only [if_true]
      simp only [Option.bind_eq_some_iff] at h
      obtain ⟨⟨r, s1⟩, hop, h⟩ := h
      have hop' := opA_ok hcall hI (a := a) (fun x _ => V_ev he.val x) hop
      refine hop'.inF hp1 hF fun Γ' v hs' hI' hE' hv => hK _ _ ?_
      rw [← hs'] at h
      exact opsA_in hcall hF l _ Γ' _ env' s' hp2 hd2 h hI' (he.put hE' hd1 hv) fun Γ'' a'' h1 h2 h3 h4 h5 => hQ Γ'' a'' h1 h2 (hE'.trans h3) h4 (h5.trans (put_tmps a o.dst v).1)
    · rename_i hw
      rw [hwant false hw]
      simp only [Bool.false_eq_true, if_false]
      refine ⟨fun f _ => hF f, hK _ _ ?_⟩
      exact opsA_in hcall hF l _ Γ _ env' s' hp2 hd2 h hI (he.put (.refl _) hd1 undef_tup) fun Γ'' a'' h1 h2 h3 h4 h5 => hQ Γ'' a'' h1 h2 h3 h4 (h5.trans (put_tmps a o.dst undef).1)
    · cases h
def plainC : Code → Bool
  | .region _ ops draw => !draw && ops.toList.all fun o => plainOp o.op
  | .seq a b => plainC a && plainC b
  | .cond _ a b => plainC a && plainC b
  | .block _ a => plainC a
  | .skip | .exit _ | .ret => true
  | _ => false
theorem den_in (hcall : FnOk P call) {F : Fence} (hF : ∀ f, F.fn f) {n N m : Nat} {out : Out} : ∀ (c : Code) (K : Kont) (env : Env) (Γ : G) (a : Act) (Q : Exit → Act → World → Prop), plainC c = true → dstOk cfg.keep m c = true → den P cfg call N c K env Γ.s = some out → Inv Γ → EnvV Γ env a m →
    (∀ ex env' Γ' a', K ex env' Γ'.s = some out → Inv Γ' → Ext Γ Γ' → EnvV Γ' env' a' m → a'.defers = a.defers → Q (exOf ex) a' Γ'.w) → c.wpIn F n P Q a Γ.w := by
  intro c
  induction c with
  | skip => intro K env Γ a Q _ _ h hI he hQ; exact wpIn_skip (hQ .normal env Γ a h hI (.refl _) he rfl)
  | exit id => intro K env Γ a Q _ _ h hI he hQ; exact wpIn_exit (hQ (.exit id) env Γ a h hI (.refl _) he rfl)
  | ret => intro K env Γ a Q _ _ h hI he hQ; exact wpIn_ret (hQ .ret env Γ a h hI (.refl _) he rfl)
  | region id ops draw =>
    intro K env Γ a Q hp hd h hI he hQ
    simp only [plainC, Bool.and_eq_true, Bool.not_eq_true', List.all_eq_true] at hp
    obtain ⟨rfl, hp⟩ := hp
    simp only [den, Option.bind_eq_some_iff, killI] at h
    obtain ⟨⟨env', s'⟩, h1, h2⟩ := h
    simp only [dstOk, Bool.and_eq_true] at hd
    have hd1 : ∀ o ∈ ops.toList, ∀ d, o.dst = some d → d < m := fun o ho d hdd => by
      have := List.all_eq_true.1 hd.1 o ho
      rw [hdd] at this
      simpa using this
    refine wpIn_region_list ?_
    rw [← List.append_nil ops.toList]
    refine opsA_in hcall hF ops.toList env Γ a env' s' hp hd1 h1 hI he fun Γ' a' g1 g2 g3 g4 g5 => wpListIn_nil (hQ .normal env' Γ' a' ?_ g2 g3 g4 g5)
    rw [g1]; exact h2
  | seq x y ihx ihy =>
    intro K env Γ a Q hp hd h hI he hQ
    simp only [dstOk, Bool.and_eq_true] at hd
    simp only [plainC, Bool.and_eq_true] at hp
    simp only [den] at h
    refine wpIn_seq (ihx _ env Γ a _ hp.1 hd.1 h hI he fun ex env' Γ' a' g1 g2 g3 g4 g5 => ?_)
    cases ex with
    | normal => exact ihy K env' Γ' a' Q hp.2 hd.2 g1 g2 g4 fun ex2 env2 Γ2 a2 k1 k2 k3 k4 k5 => hQ ex2 env2 Γ2 a2 k1 k2 (g3.trans k3) k4 (k5.trans g5)
    | exit id => exact hQ (.exit id) env' Γ' a' g1 g2 g3 g4 g5
    | ret => exact hQ .ret env' Γ' a' g1 g2 g3 g4 g5
  | cond c x y ihx ihy =>
    intro K env Γ a Q hp hd h hI he hQ
    simp only [dstOk, Bool.and_eq_true] at hd
    simp only [plainC, Bool.and_eq_true] at hp
    simp only [den] at h
    have hV := V_ev he.val c
    split at h
    · rename_i hc
      rw [hc, V_bool] at hV
      exact wpIn_cond_true hV (ihx K env Γ a Q hp.1 hd.1 h hI he hQ)
    · rename_i hc
      rw [hc, V_bool] at hV
      exact wpIn_cond_false hV (ihy K env Γ a Q hp.2 hd.2 h hI he hQ)
    · cases h
  | block id x ih =>
    intro K env Γ a Q hp hd h hI he hQ
    simp only [dstOk] at hd
    simp only [plainC] at hp
    simp only [den] at h
    refine wpIn_block (ih _ env Γ a _ hp hd h hI he fun ex env' Γ' a' g1 g2 g3 g4 g5 => ?_)
    cases ex with
    | normal => exact hQ .normal env' Γ' a' g1 g2 g3 g4 g5
    | exit i =>
      simp only [exOf, Exit.inBlock]
      dsimp only at g1
      split at g1
      · rename_i hi; rw [if_pos hi]; exact hQ .normal env' Γ' a' g1 g2 g3 g4 g5
      · rename_i hi; rw [if_neg hi]; exact hQ (.exit i) env' Γ' a' g1 g2 g3 g4 g5
    | ret => exact hQ .ret env' Γ' a' g1 g2 g3 g4 g5
  | _ => intro K env Γ a Q hp; cases hp

theorem blk_cells {w : World} {a : Addr} {v : Value} (h : w.cell? a = some v) : ∃ o, w.heap[a.block]? = some o ∧ o.isCells = true := by
  obtain ⟨o, ho, hc⟩ := cells_of_cell h
  exact ⟨o, ho, hc⟩
def Solid (s : St) : Prop := ∀ p, (s p).c = .dead ∨ ∃ x xs, (s p).c = .buf (x :: xs)
theorem Inv.grown {Γ1 Γ : G} {B : Nat} (hI : Inv Γ) (hE : Ext Γ1 Γ) (hB : Γ1.w.heap.size ≤ B) (hS : ∀ b o, Γ.S b o → b < B ∨ ∃ v, Γ.w.cell? ⟨b, o, none⟩ = some v) (hR : Solid Γ.s)
    {W' : World} {row : Option Nat} (hg : Γ.w.grownBy W' row) (hr : ∀ r, row = some r → B ≤ r ∧ ∃ o : Obj, Γ.w.heap[r]? = some o ∧ o.isCells = false) :
    Inv { Γ with w := W' } ∧ Ext Γ1 { Γ with w := W' } ∧ ∀ b o, Γ.S b o → b < B ∨ ∃ v, W'.cell? ⟨b, o, none⟩ = some v := by
  have hrow : ∀ r, row = some r → ∃ o : Obj, Γ.w.heap[r]? = some o ∧ o.isCells = false := fun r h => (hr r h).2
  have hlow : ∀ b, b < B → b < Γ.w.heap.size → W'.heap[b]? = Γ.w.heap[b]? := fun b hb hs => hg.block b hs fun e => by
    have := (hr b e.symm).1
    omega
  have hsz : Γ.w.heap.size ≤ W'.heap.size := hg.size
  have hcell : ∀ b o, Γ.S b o → W'.cell? ⟨b, o, none⟩ = Γ.w.cell? ⟨b, o, none⟩ := fun b o h => by
    rcases hS b o h with h1 | ⟨v, h1⟩
    · exact cell_of_block (hlow b h1 (hI.stay b o h).1) o
    · rw [h1]; exact cell_kept h1 hg hrow
  have hst : Stays Γ.S Γ.w Γ.S W' := fun b o h => ⟨h, hcell b o h⟩
  have hnm : ∀ p t xs hs, Γ.s p ≠ ⟨t, .mix xs hs⟩ := fun p t xs hs h => by
    rcases hR p with h' | ⟨_, _, h'⟩ <;> rw [h] at h' <;> cases h'
  refine ⟨⟨⟨fun p => ?_, hI.apart, fun b o h => ⟨Nat.lt_of_lt_of_le (hI.stay b o h).1 hsz, (hI.stay b o h).2⟩⟩, fun p t xs hs h => absurd h (hnm p t xs hs)⟩, ⟨hE.stays.trans hst, hg.os.trans hE.os, hg.tape.trans hE.tape, hg.output.trans hE.output, Nat.le_trans hE.size hsz, fun b hb hn => ?_, fun b o hb hn => ?_, fun b o hb hn => ?_, hE.newS, hE.newR, hE.ser, hE.bf, hE.tk⟩, fun b o h => ?_⟩
  · have he := hI.ent p
    unfold EntOk at he ⊢
    dsimp only
    rcases hR p with h | ⟨x, xs, h⟩
    · rw [h]; trivial
    · rw [h] at he ⊢
      simp only [EntC] at he ⊢
      obtain ⟨v0, hv0, _⟩ := he.2.2.1 0 x rfl
      obtain ⟨ob, ho, hc⟩ := blk_cells hv0
      have hb : W'.heap[(Γ.φ p).blk]? = Γ.w.heap[(Γ.φ p).blk]? := grownBy_keeps_cells hg hrow ho hc
      refine ⟨Nat.lt_of_lt_of_le he.1 hsz, fun o => by rw [frozen_of_block hb]; exact he.2.1 o, fun i x hx => ?_, fun i hi => ?_⟩
      · obtain ⟨v, g1, g2, g3⟩ := he.2.2.1 i x hx
        exact ⟨v, by rw [cell_of_block hb]; exact g1, g2, V0.mono hst _ _ g3⟩
      · obtain ⟨v, g1⟩ := he.2.2.2 i hi
        exact ⟨v, by rw [cell_of_block hb]; exact g1⟩
  · exact (hlow b (by omega) (Nat.lt_of_lt_of_le hb hE.size)).trans (hE.block b hb hn)
  · exact (cell_of_block (hlow b (by omega) (Nat.lt_of_lt_of_le hb hE.size)) o).trans (hE.cell b o hb hn)
  · exact (frozen_of_block (hlow b (by omega) (Nat.lt_of_lt_of_le hb hE.size)) o).trans (hE.frzn b o hb hn)
  · rcases hS b o h with h1 | ⟨v, h1⟩
    · exact .inl h1
    · exact .inr ⟨v, cell_kept h1 hg hrow⟩
theorem others_of_ext {Γ Γ' : G} (hI : Inv Γ) (hR : Solid Γ.s) (hE : Ext Γ Γ') : KeepsOthers Γ.w Γ'.w := by
  refine ⟨hE.size, fun k o hk ho => ?_⟩
  have hlt : k < Γ.w.heap.size := (Array.getElem?_eq_some_iff.1 hk).1
  rw [hE.block k hlt fun p q hr => ?_]
  · exact hk
  · rcases hR p with h | ⟨x, xs, h⟩
    · unfold Rg at hr; rw [h] at hr; exact hr
    · unfold Rg at hr; rw [h] at hr
      have he := hI.ent p
      unfold EntOk at he
      rw [h] at he
      obtain ⟨v0, hv0, _⟩ := he.2.2.1 0 x rfl
      obtain ⟨ob, ho', hc⟩ := blk_cells hv0
      dsimp only at ho'
      rw [← hr, hk] at ho'
      cases ho'
      rw [ho] at hc; cases hc
section
variable {S : Nat → Nat → Prop} {w : World}
def Here (S : Nat → Nat → Prop) (w : World) : Nat → Nat → Prop := fun b o => S b o ∧ ∃ v, w.cell? ⟨b, o, none⟩ = some v
mutual
theorem V0.here : ∀ (x : AV) (v : Value), V0 S w x v → V0 (Here S w) w x v
  | .undef, _, _ => by simp only [V0]
  | .int .., _, k => by simpa only [V0] using k
  | .bool _, _, k => by simpa only [V0] using k
  | .str _, _, k => by simpa only [V0] using k
  | .agg xs, v, k => by
    simp only [V0] at k ⊢
    obtain ⟨vs, hv, hl⟩ := k
    exact ⟨vs, hv, VL.here xs vs hl⟩
  | .tup xs, v, k => by
    simp only [V0] at k ⊢
    obtain ⟨vs, hv, hl⟩ := k
    exact ⟨vs, hv, VT.here xs vs hl⟩
  | .sl xs len g, v, k => by
    simp only [V0] at k ⊢
    obtain ⟨a, cap, hv, hl, hg, hk, hx⟩ := k
    refine ⟨a, cap, hv, hl, hg, hk, ?_⟩
    rcases hx with hx | ⟨b, o, ha, hc⟩
    · exact .inl hx
    · exact .inr ⟨b, o, ha, VC.here xs b o hc⟩
  | .own .., _, k => by simp only [V0] at k
  | .ptr .., _, k => by simp only [V0] at k
  | .rptr xs, v, k => by
    simp only [V0] at k ⊢
    obtain ⟨b, o, hv, hc⟩ := k
    exact ⟨b, o, hv, VC.here xs b o hc⟩
  | .nilp, _, k => by simpa only [V0] using k
  | .fn f xs, v, k => by
    simp only [V0] at k ⊢
    obtain ⟨vs, hv, hl⟩ := k
    exact ⟨vs, hv, VT.here xs vs hl⟩
  | .iface t x, v, k => by
    simp only [V0] at k ⊢
    obtain ⟨u, hv, hl⟩ := k
    exact ⟨u, hv, V0.here x u hl⟩
  | .nili, _, k => by simpa only [V0] using k
theorem VL.here : ∀ (xs : List AV) (vs : List Value), VL S w xs vs → VL (Here S w) w xs vs
  | [], _, k => by simpa only [VL] using k
  | x :: xs, vs, k => by
    simp only [VL] at k ⊢
    obtain ⟨v, r, hv, ho, h0, hr⟩ := k
    exact ⟨v, r, hv, ho, V0.here x v h0, VL.here xs r hr⟩
theorem VT.here : ∀ (xs : List AV) (vs : List Value), VT S w xs vs → VT (Here S w) w xs vs
  | [], _, k => by simpa only [VT] using k
  | x :: xs, vs, k => by
    simp only [VT] at k ⊢
    obtain ⟨v, r, hv, h0, hr⟩ := k
    exact ⟨v, r, hv, V0.here x v h0, VT.here xs r hr⟩
theorem VC.here : ∀ (xs : List AV) (b o : Nat), VC S w xs b o → VC (Here S w) w xs b o
  | [], _, _, _ => by simp only [VC]
  | x :: xs, b, o, k => by
    simp only [VC] at k ⊢
    obtain ⟨hs, ⟨v, hv, ho, h0⟩, hr⟩ := k
    exact ⟨⟨hs, v, hv⟩, ⟨v, hv, ho, V0.here x v h0⟩, VC.here xs b (o + 1) hr⟩
end
theorem Stays.sub {S' : Nat → Nat → Prop} (h : ∀ b o, S b o → S' b o) : Stays S w S' w := fun b o hs => ⟨h b o hs, rfl⟩
end

open Classical in
noncomputable def capK (φ : Ex → Env → St → Prop) : Kont := fun e env s => if φ e env s then some (.tree .undef, []) else none
theorem capK_of {φ : Ex → Env → St → Prop} {e : Ex} {env : Env} {s : St} (h : φ e env s) : capK φ e env s = some (.tree .undef, []) := by unfold capK; rw [if_pos h]
theorem of_capK {φ : Ex → Env → St → Prop} {e : Ex} {env : Env} {s : St} {o : Out} (h : capK φ e env s = some o) : φ e env s := by
  unfold capK at h
  split at h
  · assumption
  · cases h
theorem den_cap (hcall : FnOk P call) {F : Fence} (hF : ∀ f, F.fn f) {n N m : Nat} (φ : Ex → Env → St → Prop) {c : Code} {env : Env} {Γ : G} {a : Act} {Q : Exit → Act → World → Prop} (hp : plainC c = true) (hd : dstOk cfg.keep m c = true)
    (h : den P cfg call N c (capK φ) env Γ.s = some (.tree .undef, [])) (hI : Inv Γ) (he : EnvV Γ env a m)
    (hQ : ∀ ex env' Γ' a', φ ex env' Γ'.s → Inv Γ' → Ext Γ Γ' → EnvV Γ' env' a' m → a'.defers = a.defers → Q (exOf ex) a' Γ'.w) : c.wpIn F n P Q a Γ.w :=
  den_in hcall hF c (capK φ) env Γ a Q hp hd h hI he fun ex env' Γ' a' h1 h2 h3 h4 h5 => hQ ex env' Γ' a' (of_capK h1) h2 h3 h4 h5

def lookOp : Op → Bool
  | .move _ | .assign _ | .load .. | .binOp .. | .unOp .. | .indexAddr .. => true
  | .call c => match c.callee with
    | .builtin .len => true
    | _ => false
  | _ => false
theorem opA_look {o : Oper} {d : Nat} {env : Env} {Γ : G} {a : Act} {r : AV} {s' : St} (hl : lookOp o.op = true) (hI : Inv Γ) (hev : OpsOk Γ env a o) (h : opA P cfg call false o d env Γ.s = some (r, s')) :
    s' = Γ.s ∧ ∃ v, (execOp a.eval o).run P Γ.w = .ok (.value v) Γ.w ∧ V Γ r v := by
  have fin : ∀ {m : Sem Value} {r : AV}, execOp a.eval o = (do pure (.value (← m))) → PureOk P m Γ r → ∃ v, (execOp a.eval o).run P Γ.w = .ok (.value v) Γ.w ∧ V Γ r v := by
    rintro m r hex ⟨v, h1, h2⟩
    exact ⟨v, by rw [hex, Sem.run_bind, h1]; rfl, h2⟩
  unfold OpsOk at hev
  unfold lookOp at hl
  unfold opA at h
  dsimp only at h
  split at h
  · rename_i x hop
    cases h
    rw [hop] at hev
    exact ⟨rfl, _, by simp only [execOp, hop]; rfl, hev x (by simp [Op.operands])⟩
  · rename_i x hop
    cases h
    rw [hop] at hev
    exact ⟨rfl, _, by simp only [execOp, hop]; rfl, hev x (by simp [Op.operands])⟩
  · rename_i hop; rw [hop] at hl; cases hl
  · rename_i op t x y yt hop
    rw [hop] at hev
    obtain ⟨r', hr, e⟩ := map_some h
    cases e
    exact ⟨rfl, fin (by simp only [execOp, hop]) (binA_ok hr (hev x (by simp [Op.operands])) (hev y (by simp [Op.operands])) x y)⟩
  · rename_i op t x hop
    rw [hop] at hev
    obtain ⟨r', hr, e⟩ := map_some h
    cases e
    exact ⟨rfl, fin (by simp only [execOp, hop]) (unA_ok hr (hev x (by simp [Op.operands])))⟩
  · rename_i hop; rw [hop] at hl; cases hl
  · rename_i hop; rw [hop] at hl; cases hl
  · rename_i t x hop
    rw [hop] at hev
    obtain ⟨r', hr, e⟩ := map_some h
    cases e
    exact ⟨rfl, fin (by simp only [execOp, hop]) (loadA_ok hI hr (hev x (by simp [Op.operands])))⟩
  · rename_i hop; rw [hop] at hl; cases hl
  · rename_i hop; rw [hop] at hl; cases hl
  · rename_i hop; rw [hop] at hl; cases hl
  · rename_i t x i hop
    rw [hop] at hev
    obtain ⟨r', hr, e⟩ := map_some h
    cases e
    exact ⟨rfl, fin (by simp only [execOp, hop]) (indexAddrA_ok hr (hev x (by simp [Op.operands])) (hev i (by simp [Op.operands])))⟩
  · rename_i hop; rw [hop] at hl; cases hl
  · rename_i hop; rw [hop] at hl; cases hl
  · rename_i hop; rw [hop] at hl; cases hl
  · rename_i hop; rw [hop] at hl; cases hl
  · rename_i hop; rw [hop] at hl; cases hl
  · rename_i hop; rw [hop] at hl; cases hl
  · rename_i hop; rw [hop] at hl; cases hl
  · rename_i hop; rw [hop] at hl; cases hl
  · rename_i hop; rw [hop] at hl; cases hl
  · rename_i c hop
    rw [hop] at hev hl
    dsimp only at hl
    have hargs : ∀ x ∈ c.args.toList, V Γ (ev env x) (a.eval x) := fun x hx => hev x (by
      simp only [Op.operands, Call.operands, Array.mem_append]; exact .inr (Array.mem_def.2 hx))
    split at h
    · rename_i hb
      split at h
      · rename_i x t hx ht
        obtain ⟨r', hr, e⟩ := map_some h
        cases e
        refine ⟨rfl, fin (builtinOp (m := Builtin.len_ c.argTypes o.type (c.args.map a.eval)) hop hb rfl) ?_⟩
        have : c.args.map a.eval = #[a.eval x] := by apply Array.ext'; simp [hx]
        rw [this]
        exact lenA_ok hr (hargs x (by rw [hx]; simp)) _ _ ht
      · cases h
    all_goals first
      | (cases h; done)
      | (split at hl
         · simp_all
         · cases hl)
  · cases h
theorem opsA_look {F : Fence} (hF : ∀ f, F.fn f) {n : Nat} {ops : Array Oper} {rest : List Oper} {Q : Exit → Act → World → Prop} {m : Nat} {Γ : G} (hI : Inv Γ) : ∀ (l : List Oper) (env : Env) (a : Act) (env' : Env) (s' : St),
    (∀ o ∈ l, lookOp o.op = true ∧ o.guard = none) → (∀ o ∈ l, ∀ d, o.dst = some d → d < m) → opsA P cfg call false ops l env Γ.s = some (env', s') → EnvV Γ env a m →
    (∀ a', EnvV Γ env' a' m → a'.defers = a.defers → (∀ t, (∀ o ∈ l, o.dst ≠ some t) → a'.tmps.getD t undef = a.tmps.getD t undef) → wpListIn F n P ops Q rest a' Γ.w) → wpListIn F n P ops Q (l ++ rest) a Γ.w
  | [], env, a, env', s', _, _, h, he, hQ => by
    simp only [opsA, Option.some.injEq, Prod.mk.injEq] at h
    obtain ⟨rfl, rfl⟩ := h
    exact hQ a he rfl fun _ _ => rfl
  | o :: l, env, a, env', s', hp, hd, h, he, hQ => by
    have hd1 : ∀ x, o.dst = some x → x < m := hd o (List.mem_cons_self ..)
    have hp1 := hp o (List.mem_cons_self ..)
    simp only [opsA, wantA, hp1.2, Option.bind_eq_some_iff] at h
    obtain ⟨⟨r, s1⟩, hop, h⟩ := h
    rw [List.cons_append]
    refine wpListIn_plain hp1.2 fun K hK => ?_
    obtain ⟨rfl, v, hv1, hv2⟩ := opA_look hp1.1 hI (a := a) (fun x _ => V_ev he.val x) hop
    refine ⟨fun f _ => hF f, ?_⟩
    rw [Oper.semAt_plain F _ _ (by intro c hc; have := hp1.1; rw [hc] at this; cases this), hv1]
    refine hK _ _ ?_
    refine opsA_look hF hI l _ _ env' s' (fun o' ho' => hp o' (List.mem_cons_of_mem _ ho')) (fun o' ho' => hd o' (List.mem_cons_of_mem _ ho')) h (he.put (.refl _) hd1 hv2) fun a'' h4 h5 h6 => hQ a'' h4 (h5.trans (put_tmps a o.dst v).1) fun t ht => ?_
    rw [h6 t fun o' ho' => ht o' (List.mem_cons_of_mem _ ho')]
    have hot := ht o (List.mem_cons_self ..)
    cases hdst : o.dst with
    | none => rfl
    | some d => rw [put_get a d v t (by rw [he.size]; exact hd1 d hdst), if_neg (fun e => hot (by rw [hdst, e]))]
theorem ops1_cap {q : Bool} {all : Array Oper} {l : List Oper} {φ : Ex → Env → St → Prop} {env : Env} {s : St} {o : Out} (h : ops1 P cfg call q all l (capK φ) env s = some o) : ∃ env' s', opsA P cfg call q all l env s = some (env', s') ∧ φ .normal env' s' := by
  unfold ops1 at h
  simp only [Option.bind_eq_some_iff] at h
  obtain ⟨⟨env', s'⟩, h1, h2⟩ := h
  exact ⟨env', s', h1, of_capK h2⟩
theorem callInF {o : Oper} {a : Act} {w : World} {c : Call} {fo : Operand} {n : Nat} (ho : o.op = .call c) (hc : c.callee = .value fo) {f : FuncId} {caps : List Value} (hf : a.eval fo = .func (.func f) #[] caps.toArray)
    {fn : Func} {cd : Code} (h1 : P.funcs[f]? = some fn) (h2 : fn.name ≠ "runtime.NumGoroutine") (h3 : fn.body = some cd) {R : Ending → World → Prop} (hC : Calls P f (c.args.toList.map a.eval ++ caps).toArray w R)
    {next : Act → World → Prop} {Q : Exit → Act → World → Prop} (hR : ∀ e w', R e w' → ∃ v, e = .returned v ∧ next (a.put o.dst v) w') : o.wpIn Fence.wide n P a w next Q := by
  have hrun : (execOp a.eval o).run P w = .ok (.enter f (c.args.toList.map a.eval ++ caps).toArray) w := by
    have hne : (fn.name == "runtime.NumGoroutine") = false := by simpa using h2
    have hargs : c.args.map a.eval ++ caps.toArray = (c.args.toList.map a.eval ++ caps).toArray := by
      apply Array.ext'; simp
    simp only [execOp, ho, resolve, hc, Sem.run_bind, Deferred.ofValue, hf, Sem.run_pure, Result.andThen_ok, invoke, callFunc, run_program, h1, hne, h3, Option.isNone_some, Bool.false_eq_true, if_false, Array.empty_append, hargs]
  refine ⟨fun f _ => trivial, ?_⟩
  rw [Oper.semAt_plain _ _ _ (by intro c hc; rw [hc] at ho; cases ho), hrun]
  refine ⟨fun h => (by cases h), (callsIn_wide.2 hC).mono fun e w' hr => ?_⟩
  obtain ⟨v, rfl, hn⟩ := hR e w' hr
  exact hn
theorem roundInF {o : Oper} {a : Act} {w : World} {c : Call} {fo : Operand} {n l : Nat} (ho : o.op = .call c) (hc : c.callee = .value fo) (hf : a.eval fo = .func (.yield l) #[] #[])
    {R : Ending → World → Prop} (hY : YieldAt Fence.wide (n - 1) P l (c.args.toList.map a.eval).toArray w R)
    {next : Act → World → Prop} {Q : Exit → Act → World → Prop} (hR : ∀ e w', R e w' → ∃ v, e = .returned v ∧ next (a.put o.dst v) w') : o.wpIn Fence.wide n P a w next Q := by
  obtain ⟨fn, tmps, assign, body, hy, hr⟩ := hY
  have hrun : (execOp a.eval o).run P w = .ok (.round l fn tmps assign body) w := by
    have hargs : c.args.map a.eval = (c.args.toList.map a.eval).toArray := by
      apply Array.ext'; simp
    simp only [execOp, ho, resolve, hc, Sem.run_bind, Deferred.ofValue, hf, Sem.run_pure, Result.andThen_ok, invoke, Array.empty_append]
    rw [hargs]
    exact hy
  refine ⟨fun f _ => trivial, ?_⟩
  rw [Oper.semAt_plain _ _ _ (by intro c hc; rw [hc] at ho; cases ho), hrun]
  refine ⟨fun h => (by cases h), hr.mono fun e w' hr => ?_⟩
  obtain ⟨v, rfl, hn⟩ := hR e w' hr
  exact hn
end
end Go.Ab
