/- The walk of NumTexts: it gives true, and leaves memory below as it was. No conditions. -/
import Derived.Test.YtdibanolokkniaaDoorAbnLawN
import Derived.Test.YtdibanolokkniaaDoorAbnX8
namespace Go.Ab
open Go.Proofs Go.RowKit
theorem walkNTexts (v0 : Value) (s : ByteArray) (w : World) (h0 : IsNum w v0) :
    Calls Tryd.prog 9 #[v0, .string s] w fun e w' => e = .returned (.bool true) ∧ Below w.heap.size w w' := by
  obtain ⟨b0, l0, g0, k0⟩ := numOf h0
  refine lawCalls mixed (vs := [v0, .string s]) (texts_eqN b0 .l l0 g0 s.data.toList) rfl (st0_2 _ _) (fun j v hj => ?_) true rfl
  match j, hj with
  | 0, hj => cases hj; exact ⟨k0, isTree_N _ _ _⟩
  | 1, hj => cases hj; exact ⟨by simp [env0, V0], rfl⟩
end Go.Ab
