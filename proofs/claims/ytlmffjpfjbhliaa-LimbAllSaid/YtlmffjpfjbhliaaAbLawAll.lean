/- The walk of LimbAll: it gives true, and leaves memory below as it was. No conditions. -/
import Derived.Test.YtlmffjpfjbhliaaAbL18
namespace Go.Ab
open Go.Proofs Go.RowKit
theorem walkAll (a0 : Option Addr) (len0 cap0 : Nat) (z0 : List Int) (a1 : Option Addr) (len1 cap1 : Nat) (z1 : List Int) (a2 : Int) (w : World) (h0 : IsRow .u32 w a0 len0 cap0 z0) (h1 : IsRow .u32 w a1 len1 cap1 z1) (h2 : (Lit.int .i64 a2).wf = true) :
    Calls Try.prog 7 #[.slice a0 len0 cap0, .slice a1 len1 cap1, .int .i64 a2] w fun e w' => e = .returned (.bool true) ∧ Below w.heap.size w w' := by
  obtain ⟨l0, g0, v0⟩ := limbsOf h0
  obtain ⟨l1, g1, v1⟩ := limbsOf h1
  have hz : a2 ≤ 9223372036854775807 := by
    simp [Lit.wf, IntKind.min, IntKind.max, IntKind.bits, IntKind.signed] at h2
    omega
  refine lawCalls mixed (vs := [.slice a0 len0 cap0, .slice a1 len1 cap1, .int .i64 a2]) (all_eq 100000 0 (Nat.le_refl _) false false l0 l1 a2 hz g0 g1) rfl (st0_3 _ _ _) (fun j v hj => ?_) true rfl
  match j, hj with
  | 0, hj => cases hj; exact ⟨v0, isTree_L _ _⟩
  | 1, hj => cases hj; exact ⟨v1, isTree_L _ _⟩
  | 2, hj => cases hj; exact ⟨by simp [env0, V0], rfl⟩
end Go.Ab
