/- The walk of TermOrders: it gives true, and leaves memory below as it was. No conditions. -/
import Derived.Test.YtaifnpbgamookaaDoorAbtOp
import Derived.Test.YtaifnpbgamookaaDoorAbtTC
namespace Go.Ab
open Go.Proofs Go.RowKit
theorem isTree_T (t : T) : isTree (encT t) = true := rfl
theorem R0_ge : 100000 ≤ R0 := by unfold R0; decide
theorem R0_le : R0 ≤ 9223372036854775808 := Nat.le_refl _
theorem walkTOrders (v0 v1 v2 : Value) (w : World) (h0 : IsTerm w v0) (h1 : IsTerm w v1) (h2 : IsTerm w v2) :
    Calls Tryd.prog 7 #[v0, v1, v2] w fun e w' => e = .returned (.bool true) ∧ Below w.heap.size w w' := by
  obtain ⟨a, a1, _, a3⟩ := h0
  obtain ⟨b, b1, _, b3⟩ := h1
  obtain ⟨c, c1, _, c3⟩ := h2
  refine lawCalls mixed (vs := [v0, v1, v2]) (orders_T R0 R0_ge R0_le a b c a1 b1 c1) rfl (st0_3 _ _ _) (fun j v hj => ?_) true rfl
  match j, hj with
  | 0, hj => cases hj; exact ⟨a3, isTree_T _⟩
  | 1, hj => cases hj; exact ⟨b3, isTree_T _⟩
  | 2, hj => cases hj; exact ⟨c3, isTree_T _⟩
end Go.Ab
