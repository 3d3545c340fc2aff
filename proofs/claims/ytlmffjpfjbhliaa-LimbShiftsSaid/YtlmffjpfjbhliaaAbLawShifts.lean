/- The walk of LimbShifts: it gives true, and leaves memory below as it was. No conditions. -/
import Derived.Test.YtlmffjpfjbhliaaAbL17
import Derived.Test.YtlmffjpfjbhliaaAbLawB
namespace Go.Ab
open Go.Proofs Go.RowKit
theorem walkShifts (a0 : Option Addr) (len0 cap0 : Nat) (z0 : List Int) (a1 : Int) (w : World) (h0 : IsRow .u32 w a0 len0 cap0 z0) (_ : (Lit.int .i64 a1).wf = true) :
    Calls Try.prog 5 #[.slice a0 len0 cap0, .int .i64 a1] w fun e w' => e = .returned (.bool true) ∧ Below w.heap.size w w' := by
  obtain ⟨l0, g0, v0⟩ := limbsOf h0
  refine lawCalls mixed (vs := [.slice a0 len0 cap0, .int .i64 a1]) (shifts_eq 100000 0 (Nat.le_refl _) false l0 a1 g0) rfl (st0_2 _ _) (fun j v hj => ?_) true rfl
  match j, hj with
  | 0, hj => cases hj; exact ⟨v0, isTree_L _ _⟩
  | 1, hj => cases hj; exact ⟨by simp [env0, V0], rfl⟩
end Go.Ab
