/- The walk of LimbPowers: it gives true, and leaves memory below as it was. No conditions. -/
import Derived.Test.YtlmffjpfjbhliaaAbL16
import Derived.Test.YtlmffjpfjbhliaaAbLawB
namespace Go.Ab
open Go.Proofs Go.RowKit
theorem walkPowers (a0 : Int) (a1 : Int) (w : World) (_ : (Lit.int .i64 a0).wf = true) (_ : (Lit.int .i64 a1).wf = true) :
    Calls Try.prog 8 #[.int .i64 a0, .int .i64 a1] w fun e w' => e = .returned (.bool true) ∧ Below w.heap.size w w' := by
  refine lawCalls mixed (vs := [.int .i64 a0, .int .i64 a1]) (powers_eq 100000 0 (Nat.le_refl _)  a0 a1 ) rfl (st0_2 _ _) (fun j v hj => ?_) true rfl
  match j, hj with
  | 0, hj => cases hj; exact ⟨by simp [env0, V0], rfl⟩
  | 1, hj => cases hj; exact ⟨by simp [env0, V0], rfl⟩
end Go.Ab
