/- The walk of NumBits: it gives true, and leaves memory below as it was. No conditions. -/
import Derived.Test.YtdibanolokkniaaDoorAbnLawN
import Derived.Test.YtdibanolokkniaaDoorAbnA16
namespace Go.Ab
open Go.Proofs Go.RowKit
theorem walkNBits (v0 : Value) (w : World) (h0 : IsNum w v0) :
    Calls Tryd.prog 3 #[v0] w fun e w' => e = .returned (.bool true) ∧ Below w.heap.size w w' := by
  obtain ⟨b0, l0, g0, k0⟩ := numOf h0
  refine lawCalls mixed (vs := [v0]) (bits_law b0 .l l0 g0) rfl (st0_1 _) (fun j v hj => ?_) true rfl
  match j, hj with
  | 0, hj => cases hj; exact ⟨k0, isTree_N _ _ _⟩
end Go.Ab
