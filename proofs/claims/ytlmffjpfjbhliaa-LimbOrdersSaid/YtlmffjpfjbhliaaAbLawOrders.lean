/- The walk of LimbOrders: it gives true, and leaves memory below as it was. No conditions. -/
import Derived.Test.YtlmffjpfjbhliaaAbL15
import Derived.Test.YtlmffjpfjbhliaaAbLawB
namespace Go.Ab
open Go.Proofs Go.RowKit
theorem walkOrders (a0 : Option Addr) (len0 cap0 : Nat) (z0 : List Int) (a1 : Option Addr) (len1 cap1 : Nat) (z1 : List Int) (a2 : Option Addr) (len2 cap2 : Nat) (z2 : List Int) (a3 : Int) (w : World) (h0 : IsRow .u32 w a0 len0 cap0 z0) (h1 : IsRow .u32 w a1 len1 cap1 z1) (h2 : IsRow .u32 w a2 len2 cap2 z2) (_ : (Lit.int .i64 a3).wf = true) :
    Calls Try.prog 3 #[.slice a0 len0 cap0, .slice a1 len1 cap1, .slice a2 len2 cap2, .int .i64 a3] w fun e w' => e = .returned (.bool true) ∧ Below w.heap.size w w' := by
  obtain ⟨l0, g0, v0⟩ := limbsOf h0
  obtain ⟨l1, g1, v1⟩ := limbsOf h1
  obtain ⟨l2, g2, v2⟩ := limbsOf h2
  refine lawCalls mixed (vs := [.slice a0 len0 cap0, .slice a1 len1 cap1, .slice a2 len2 cap2, .int .i64 a3]) (orders_eq 100000 0 (Nat.le_refl _) false false false l0 l1 l2 a3 g0 g1 g2) rfl (st0_4 _ _ _ _) (fun j v hj => ?_) true rfl
  match j, hj with
  | 0, hj => cases hj; exact ⟨v0, isTree_L _ _⟩
  | 1, hj => cases hj; exact ⟨v1, isTree_L _ _⟩
  | 2, hj => cases hj; exact ⟨v2, isTree_L _ _⟩
  | 3, hj => cases hj; exact ⟨by simp [env0, V0], rfl⟩
end Go.Ab
