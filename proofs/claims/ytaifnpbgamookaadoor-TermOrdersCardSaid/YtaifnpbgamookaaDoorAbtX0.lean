/- Strings: short things. No conditions. -/
import Derived.Test.YtaifnpbgamookaaDoorAbtA9
namespace Go.Ab
open Go.Proofs
set_option maxRecDepth 100000
set_option linter.unusedSimpArgs false

theorem len9 (s : St) (b : List UInt8) : lenA Tryd.prog 9 s (.str b) = some (.int .i64 (b.length : Int)) := by simp only [lenA, tk9]
theorem ix9 (b : List UInt8) (k : IntKind) (i : Int) : indexA Tryd.prog 9 (.str b) (.int k i) = if 0 ≤ i ∧ i < b.length then some (.int .u8 ((b.getD i.toNat 0).toNat : Int)) else none := by simp only [indexA, tk9]
theorem zeh (P : Program) (t : TypeId) (a b : List UInt8) : binA P .eql t (.str a) (.str b) = some (.bool (a == b)) := rfl
theorem zei (P : Program) (t : TypeId) (a b : List UInt8) : binA P .neq t (.str a) (.str b) = some (.bool (!(a == b))) := rfl
theorem s_addS (P : Program) (t : TypeId) (a b : List UInt8) (h : a.length + b.length ≤ 9223372036854775807) : binA P .add t (.str a) (.str b) = some (.str (a ++ b)) := if_pos h
theorem zej (s : St) (b : List UInt8) (k : IntKind) (i : Int) : sliceA Tryd.prog 9 s (.str b) (some (.int k i)) none none = if 0 ≤ i ∧ i ≤ b.length then some (.str (b.drop i.toNat)) else none := by
  simp only [sliceA, tk9, boundA, Option.isSome_none, Bool.false_eq_true, if_false, Option.bind_some]
  split
  · rw [Option.bind_some, List.take_length]
  · rfl
theorem zek (s : St) (b : List UInt8) (k : IntKind) (i : Int) : sliceA Tryd.prog 9 s (.str b) none (some (.int k i)) none = if 0 ≤ i ∧ i ≤ b.length then some (.str (b.take i.toNat)) else none := by
  simp only [sliceA, tk9, boundA, Option.isSome_none, Bool.false_eq_true, if_false, Option.bind_some]
  split
  · rfl
  · rfl
theorem finish_s (k : Bool) (xs : List Arg) (t : Nat) (env : Env) (s : St) (v : List UInt8) (os : List (List AV)) (hv : env t = .str v) (ho : outsA s 0 xs = some os) :
    finishP Tryd.prog k xs #[.tmp t] env s = some (.tree (.str v), os) := finish_tree _ _ _ _ _ _ (.str v) _ _ hv rfl ho
def nilE (s : St) : AV → Option (AV × St)
  | .ptr p t off => if live s p t then some (.ptr p t off, s) else none
  | .rptr xs => some (.rptr xs, s)
  | _ => none
theorem opA_nilc {P : Program} {cfg : Cfg} {call : FuncId → List Arg → Option Out} {q : Bool} {d : Option Tmp} {ty : TypeId} {pos : String} {af : Array Edge} {g : Option (Nat × Bool)} {t : Nat} {env : Env} {s : St} (x : Operand) : opA P cfg call q ⟨d, .nilCheck x, ty, pos, af, g⟩ t env s = nilE s (ev env x) := by
  simp only [opA, nilE]
  cases ev env x <;> rfl
theorem nilE_ptr (s : St) (p t off : Nat) : nilE s (.ptr p t off) = if (cellsE (s p) t).isSome = true then some (.ptr p t off, s) else none := by simp only [nilE, live, cellsAt_E]
theorem upd_eqv {α : Type} (f : Nat → α) (p : Nat) (v : α) (h : f p = v) : upd f p v = f := by
  funext j
  unfold upd
  split
  · rename_i hj; rw [hj, h]
  · rfl
end Go.Ab
