/- The abstract run, step by step, as equations for a simplifier. No conditions. -/
import Derived.Test.YtaifnpbgamookaaDoorAbN
namespace Go.Ab
section
variable {P : Program} {cfg : Cfg} {call : FuncId → List Arg → Option Out} {n : Nat}

/-- What goes on behind the first part of a sequence. -/
def seqK (P : Program) (cfg : Cfg) (call : FuncId → List Arg → Option Out) (n : Nat) (b : Code) (K : Kont) : Kont := fun e env s => match e with
  | .normal => den P cfg call n b K env s
  | e => K e env s
def blockK (id : Nat) (K : Kont) : Kont := fun e env s => match e with
  | .exit i => if i = id then K .normal env s else K (.exit i) env s
  | e => K e env s
def loopK (body : Kont → Env → St → Option Out) (K : Kont) (k : Nat) : Kont := fun e env s => match e with
  | .normal => loopA body K k env s
  | e => K e env s
def ops1 (P : Program) (cfg : Cfg) (call : FuncId → List Arg → Option Out) (q : Bool) (all : Array Oper) (l : List Oper) (K : Kont) (env : Env) (s : St) : Option Out := (opsA P cfg call q all l env s).bind fun (env, s) => K .normal env s
/-- An operation's answer, and what goes on. -/
def opK (P : Program) (cfg : Cfg) (call : FuncId → List Arg → Option Out) (q : Bool) (all : Array Oper) (d : Option Tmp) (r : List Oper) (K : Kont) (env : Env) : Option (AV × St) → Option Out
  | some (v, s) => ops1 P cfg call q all r K (setO env d v) s
  | none => none

theorem zaa (a b : Code) (K : Kont) (env : Env) (s : St) : den P cfg call n (.seq a b) K env s = den P cfg call n a (seqK P cfg call n b K) env s := by rfl
theorem zbo (id : Nat) (a : Code) (K : Kont) (env : Env) (s : St) : den P cfg call n (.block id a) K env s = den P cfg call n a (blockK id K) env s := by rfl
theorem zab (id : Nat) (ops : List Oper) (K : Kont) (env : Env) (s : St) : den P cfg call n (.region id ops.toArray false) K env s = ops1 P cfg call false ops.toArray ops K env s := by
  simp [den, ops1, killI]
/-- A region that draws its order. -/
theorem zac (id : Nat) (ops : List Oper) (K : Kont) (env : Env) (s : St) : den P cfg call n (.region id ops.toArray true) K env s = ops1 P cfg call true ops.toArray ops K env (killF cfg.keep ops s) := by
  simp [den, ops1, killI]
theorem den_cond (c : Operand) (a b : Code) (K : Kont) (env : Env) (s : St) (x : Bool) (h : ev env c = .bool x) : den P cfg call n (.cond c a b) K env s = if x = true then den P cfg call n a K env s else den P cfg call n b K env s := by
  simp only [den, h]; cases x <;> rfl
theorem zbl (K : Kont) (env : Env) (s : St) : den P cfg call n .skip K env s = K .normal env s := rfl
theorem zbm (l : Nat) (K : Kont) (env : Env) (s : St) : den P cfg call n (.label l) K env s = K .normal env s := rfl
theorem zbn (id : Nat) (K : Kont) (env : Env) (s : St) : den P cfg call n (.exit id) K env s = K (.exit id) env s := rfl
theorem zbk (K : Kont) (env : Env) (s : St) : den P cfg call n .ret K env s = K .ret env s := rfl
theorem zbp (a : Code) (K : Kont) (env : Env) (s : St) : den P cfg call n (.scope a) K env s = den P cfg call n a K env s := rfl
theorem den_loop (a : Code) (K : Kont) (env : Env) (s : St) : den P cfg call n (.loop a) K env s = loopA (den P cfg call n a) K n env s := rfl
theorem loopA_succ (body : Kont → Env → St → Option Out) (K : Kont) (k : Nat) (env : Env) (s : St) : loopA body K (k + 1) env s = body (loopK body K k) env s := by rfl
theorem loopA_zero (body : Kont → Env → St → Option Out) (K : Kont) (env : Env) (s : St) : loopA body K 0 env s = none := by rfl

theorem zbz (b : Code) (K : Kont) (env : Env) (s : St) : seqK P cfg call n b K .normal env s = den P cfg call n b K env s := rfl
theorem zcb (b : Code) (K : Kont) (id : Nat) (env : Env) (s : St) : seqK P cfg call n b K (.exit id) env s = K (.exit id) env s := rfl
theorem zca (b : Code) (K : Kont) (env : Env) (s : St) : seqK P cfg call n b K .ret env s = K .ret env s := rfl
theorem zcc (id : Nat) (K : Kont) (env : Env) (s : St) : blockK id K .normal env s = K .normal env s := rfl
theorem zcd (id i : Nat) (K : Kont) (env : Env) (s : St) : blockK id K (.exit i) env s = if i = id then K .normal env s else K (.exit i) env s := rfl
theorem zce (id : Nat) (K : Kont) (env : Env) (s : St) : blockK id K .ret env s = K .ret env s := rfl
theorem zcf (body : Kont → Env → St → Option Out) (K : Kont) (k : Nat) (env : Env) (s : St) : loopK body K k .normal env s = loopA body K k env s := rfl
theorem zcg (body : Kont → Env → St → Option Out) (K : Kont) (k i : Nat) (env : Env) (s : St) : loopK body K k (.exit i) env s = K (.exit i) env s := rfl
theorem zch (body : Kont → Env → St → Option Out) (K : Kont) (k : Nat) (env : Env) (s : St) : loopK body K k .ret env s = K .ret env s := rfl

theorem zby (q : Bool) (all : Array Oper) (K : Kont) (env : Env) (s : St) : ops1 P cfg call q all [] K env s = K .normal env s := by rfl
theorem zbs (q : Bool) (all : Array Oper) (d : Option Tmp) (op : Op) (ty : TypeId) (pos : String) (af : Array Edge) (r : List Oper) (K : Kont) (env : Env) (s : St) :
    ops1 P cfg call q all (⟨d, op, ty, pos, af, none⟩ :: r) K env s = opK P cfg call q all d r K env (opA P cfg call q ⟨d, op, ty, pos, af, none⟩ (d.getD 0) env s) := by
  simp only [ops1, opsA, wantA, opK]
  cases opA P cfg call q ⟨d, op, ty, pos, af, none⟩ (d.getD 0) env s with
  | none => rfl
  | some x => cases x; rfl
/-- A guarded operation: j is the guard's own temporary. -/
theorem ops1_guard (q : Bool) (all : Array Oper) (d : Option Tmp) (op : Op) (ty : TypeId) (pos : String) (af : Array Edge) (j t : Nat) (w b : Bool) (r : List Oper) (K : Kont) (env : Env) (s : St) (hj : (all[j]?).bind (·.dst) = some t) (hb : env t = .bool b) :
    ops1 P cfg call q all (⟨d, op, ty, pos, af, some (j, w)⟩ :: r) K env s = if b = w then opK P cfg call q all d r K env (opA P cfg call q ⟨d, op, ty, pos, af, some (j, w)⟩ (d.getD 0) env s) else ops1 P cfg call q all r K (setO env d (.tup [])) s := by
  simp only [ops1, opsA, wantA, opK, hj, hb]
  cases b <;> cases w <;> simp <;> (try rfl)
  all_goals
    cases opA P cfg call q _ (d.getD 0) env s with
    | none => rfl
    | some x => cases x; rfl
theorem zck (q : Bool) (all : Array Oper) (d : Option Tmp) (r : List Oper) (K : Kont) (env : Env) (v : AV) (s : St) : opK P cfg call q all d r K env (some (v, s)) = ops1 P cfg call q all r K (setO env d v) s := rfl
theorem opK_none (q : Bool) (all : Array Oper) (d : Option Tmp) (r : List Oper) (K : Kont) (env : Env) : opK P cfg call q all d r K env none = none := rfl

/-- A round of a loop, and what it leaves to the next one. -/
theorem loop_rule {X : Type} {body : Kont → Env → St → Option Out} {K : Kont} (I : X → Env → St → Prop) (f : Nat → X → Option Out)
    (h : ∀ k, (∀ x env s, I x env s → loopA body K k env s = f k x) → ∀ x env s, I x env s → body (loopK body K k) env s = f (k + 1) x) (h0 : ∀ x, f 0 x = none) :
    ∀ k x env s, I x env s → loopA body K k env s = f k x
  | 0, x, env, s, _ => by rw [loopA_zero, h0]
  | k + 1, x, env, s, hI => by rw [loopA_succ]; exact h k (loop_rule I f h h0 k) x env s hI
/-- The same, where it is known what the loop ends in, from some number of rounds on. -/
theorem loop_ends {X : Type} {body : Kont → Env → St → Option Out} {K : Kont} (I : X → Env → St → Prop) (μ : X → Nat) (out : X → Out)
    (h : ∀ k x, μ x ≤ k → (∀ y env s, μ y < μ x → out y = out x → I y env s → loopA body K k env s = some (out x)) → ∀ env s, I x env s → body (loopK body K k) env s = some (out x)) :
    ∀ k x env s, μ x < k → I x env s → loopA body K k env s = some (out x)
  | 0, x, env, s, hk, _ => by omega
  | k + 1, x, env, s, hk, hI => by
    rw [loopA_succ]
    exact h k x (by omega) (fun y env s hy ho hI' => by rw [← ho]; exact loop_ends I μ out h k y env s (by omega) hI') env s hI
end
end Go.Ab
