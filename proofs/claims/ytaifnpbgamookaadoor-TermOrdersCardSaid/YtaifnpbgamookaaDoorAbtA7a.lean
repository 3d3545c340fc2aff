/- Shifts of numbers. Conditions: numbers that are shown. -/
import Derived.Test.YtaifnpbgamookaaDoorAbtA6
import Derived.Test.YtaifnpbgamookaaDoorAbtMM
namespace Go.Ab
open Go.Proofs
set_option maxRecDepth 100000
set_option linter.unusedSimpArgs false

theorem intZ_no {z : Int} (h : isI64 z = false) : intZ z = .tup [.int .i64 0, .bool false] := by rw [intZ, if_neg (by rw [h]; decide)]
theorem intZ_is {z : Int} (h : isI64 z = true) : intZ z = .tup [.int .i64 z, .bool true] := by rw [intZ, if_pos h]
theorem isI64_iff (z : Int) : isI64 z = true ↔ -9223372036854775808 ≤ z ∧ z < 9223372036854775808 := by
  unfold isI64; simp
theorem un_negi (x : Int) (h : -9223372036854775807 ≤ x) (h' : x ≤ 9223372036854775807) : unA .neg (.int .i64 x) = some (.int .i64 (-x)) := by
  have := i64_wrap (0 - x) (by omega) (by omega)
  simp only [unA, this]
  congr 2; omega
theorem max_abs (x : Int) : foldA max2A (.int .i64 x) [.int .i64 (-x)] = some (.int .i64 (x.natAbs : Int)) := by
  simp only [foldA, max2A, Option.bind_some]
  congr 2
  split <;> omega
theorem cAddOne (n d : Nat) (hn : 100000 ≤ n) (D : Nat) (s : St) (v : Nat) (h : v < B ^ 12) : callA cfg0 (evalFn Tryd.prog cfg0 n (d+2)) D s 83 [encR v, .sl [.int .u32 1] 1 .tight] = some (encR (v + 1), s) :=
  cAdd n d hn D s (num_R v 12 (by decide) h) (num_one 1 (by decide))
theorem cSubOne (n d : Nat) (hn : 100000 ≤ n) (D : Nat) (s : St) (g : Gk) (z : Int) (h : z.natAbs < B ^ 12) : callA cfg0 (evalFn Tryd.prog cfg0 n (d+4)) D s 84 [encL g (digs z.natAbs), .sl [.int .u32 1] 1 .tight] = some (encR (z.natAbs - 1), s) :=
  cSub n d hn D s (num_can g z h) (num_one 1 (by decide))
theorem lessK (z' : Int) (back : Bool) : (if back = true then -z' else z') = if (!(decide (z' < 0) == back)) = true then -(z'.natAbs : Int) else (z'.natAbs : Int) := by
  cases back <;> by_cases h : z' < 0 <;> simp [h] <;> omega
theorem far_down (z k : Int) (h : z.natAbs < B ^ 12) (hk : k < -10000) : madeV (shZ z k) = .tup [encZ (if z < 0 then -1 else 0), .bool true] := by
  obtain ⟨N, rfl⟩ : ∃ N : Nat, k = -(N : Int) := ⟨k.natAbs, by omega⟩
  rw [far_down0 z N h (by omega)]
  refine madeV_fit ?_
  have : 1 < B ^ 12 := Nat.one_lt_pow (by decide) (by decide)
  split
  · exact this
  · exact Nat.lt_of_succ_lt this
theorem far_up (z k : Int) (h0 : z ≠ 0) (_h : z.natAbs < B ^ 12) (hk : 384 < k) : madeV (shZ z k) = .tup [encZ 0, .bool false] := by
  obtain ⟨N, rfl⟩ : ∃ N : Nat, k = (N : Int) := ⟨k.toNat, by omega⟩
  rw [madeV, mkZ_not (far_up0 z N h0 (by omega))]
theorem tag4 (b c : Bool) (h : (!(b == c)) = true) : (b == c) = false := by simpa using h
/-- Behind an operation: of the temporaries and the store only what is told. -/
theorem forgetS {P : Program} {cfg : Cfg} {call : FuncId → List Arg → Option Out} {q : Bool} {all : Array Oper} {d : Option Tmp} {r : List Oper} {K : Kont} {env : Env} {s : St} {out : Option Out} (f : St → Option (AV × St)) (I : Env → St → Prop) (hI : I env s) (h : ∀ env s, I env s → opK P cfg call q all d r K env (f s) = out) :
    opK P cfg call q all d r K env (f s) = out := h env s hI
end Go.Ab
