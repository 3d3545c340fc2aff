/- The walk of NumAll: it gives true, and leaves memory below as it was. No conditions. -/
import Derived.Test.YtdibanolokkniaaDoorAbnLawN
import Derived.Test.YtdibanolokkniaaDoorAbnA28
namespace Go.Ab
open Go.Proofs Go.RowKit
theorem walkNAll (op : Int) (v0 v1 : Value) (v : Int) (w : World) (_ : (Lit.int .i64 op).wf = true) (h0 : IsNum w v0) (h1 : IsNum w v1) (hv : (Lit.int .i64 v).wf = true) :
    Calls Tryd.prog 6 #[.int .i64 op, v0, v1, .int .i64 v] w fun e w' => e = .returned (.bool true) ∧ Below w.heap.size w w' := by
  obtain ⟨b0, l0, g0, k0⟩ := numOf h0
  obtain ⟨b1, l1, g1, k1⟩ := numOf h1
  simp [Lit.wf, IntKind.min, IntKind.max, IntKind.bits, IntKind.signed] at hv
  refine lawCalls mixed (vs := [.int .i64 op, v0, v1, .int .i64 v]) (all_eqN op v (by omega) (by omega) b0 b1 .l .l l0 l1 g0 g1) rfl (st0_4' _ _ _ _) (fun j v hj => ?_) true rfl
  match j, hj with
  | 0, hj => cases hj; exact ⟨by simp [env0, V0], rfl⟩
  | 1, hj => cases hj; exact ⟨k0, isTree_N _ _ _⟩
  | 2, hj => cases hj; exact ⟨k1, isTree_N _ _ _⟩
  | 3, hj => cases hj; exact ⟨by simp [env0, V0], rfl⟩
end Go.Ab
