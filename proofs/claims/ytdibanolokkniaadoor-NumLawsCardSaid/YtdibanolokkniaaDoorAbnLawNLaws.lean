/- The walk of NumLaws: it gives true, and leaves memory below as it was. No conditions. -/
import Derived.Test.YtdibanolokkniaaDoorAbnLawN
import Derived.Test.YtdibanolokkniaaDoorAbnA17
namespace Go.Ab
open Go.Proofs Go.RowKit
theorem walkNLaws (v0 v1 : Value) (w : World) (h0 : IsNum w v0) (h1 : IsNum w v1) :
    Calls Tryd.prog 7 #[v0, v1] w fun e w' => e = .returned (.bool true) ∧ Below w.heap.size w w' := by
  obtain ⟨b0, l0, g0, k0⟩ := numOf h0
  obtain ⟨b1, l1, g1, k1⟩ := numOf h1
  refine lawCalls mixed (vs := [v0, v1]) (laws_eqN b0 b1 .l .l l0 l1 g0 g1) rfl (st0_2 _ _) (fun j v hj => ?_) true rfl
  match j, hj with
  | 0, hj => cases hj; exact ⟨k0, isTree_N _ _ _⟩
  | 1, hj => cases hj; exact ⟨k1, isTree_N _ _ _⟩
end Go.Ab
