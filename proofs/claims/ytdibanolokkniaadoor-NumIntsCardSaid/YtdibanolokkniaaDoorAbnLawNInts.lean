/- The walk of NumInts: it gives true, and leaves memory below as it was. No conditions. -/
import Derived.Test.YtdibanolokkniaaDoorAbnLawN
import Derived.Test.YtdibanolokkniaaDoorAbnA20
namespace Go.Ab
open Go.Proofs Go.RowKit
theorem walkNInts (p q : Int) (w : World) (_ : (Lit.int .i64 p).wf = true) (_ : (Lit.int .i64 q).wf = true) :
    Calls Tryd.prog 4 #[.int .i64 p, .int .i64 q] w fun e w' => e = .returned (.bool true) ∧ Below w.heap.size w w' := by
  refine lawCalls mixed (vs := [.int .i64 p, .int .i64 q]) (ints_eq p q) rfl (st0_2 _ _) (fun j v hj => ?_) true rfl
  match j, hj with
  | 0, hj => cases hj; exact ⟨by simp [env0, V0], rfl⟩
  | 1, hj => cases hj; exact ⟨by simp [env0, V0], rfl⟩
end Go.Ab
