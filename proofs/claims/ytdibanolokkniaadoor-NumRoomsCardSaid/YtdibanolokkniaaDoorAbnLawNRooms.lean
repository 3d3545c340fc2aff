/- The walk of NumRooms: it gives true, and leaves memory below as it was. No conditions. -/
import Derived.Test.YtdibanolokkniaaDoorAbnLawN
import Derived.Test.YtdibanolokkniaaDoorAbnA11
namespace Go.Ab
open Go.Proofs Go.RowKit
theorem walkNRooms (z : Int) (b : Bool) (w : World) (_ : (Lit.int .i64 z).wf = true) :
    Calls Tryd.prog 8 #[.int .i64 z, .bool b] w fun e w' => e = .returned (.bool true) ∧ Below w.heap.size w w' := by
  refine lawCalls mixed (vs := [.int .i64 z, .bool b]) (rooms_eq z b) rfl (st0_2 _ _) (fun j v hj => ?_) true rfl
  match j, hj with
  | 0, hj => cases hj; exact ⟨by simp [env0, V0], rfl⟩
  | 1, hj => cases hj; exact ⟨by simp [env0, V0], rfl⟩
end Go.Ab
