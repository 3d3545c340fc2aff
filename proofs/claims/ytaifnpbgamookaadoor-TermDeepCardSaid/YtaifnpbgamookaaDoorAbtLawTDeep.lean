/- The walk of TermDeep: it gives true, and leaves memory below as it was. No conditions. -/
import Derived.Test.YtaifnpbgamookaaDoorAbtLawN
import Derived.Test.YtaifnpbgamookaaDoorAbtT11
namespace Go.Ab
open Go.Proofs Go.RowKit
theorem walkTDeep (p q : Int) (w : World) (_ : (Lit.int .i64 p).wf = true) (_ : (Lit.int .i64 q).wf = true) :
    Calls Tryd.prog 3 #[.int .i64 p, .int .i64 q] w fun e w' => e = .returned (.bool true) ∧ Below w.heap.size w w' := by
  refine lawCalls mixed (vs := [.int .i64 p, .int .i64 q]) (deep_eqN p q) rfl (by funext j; match j with | 0 | 1 | _ + 2 => simp [st0, dead]) (fun j v hj => ?_) true rfl
  match j, hj with
  | 0, hj => cases hj; exact ⟨by simp [env0, V0], rfl⟩
  | 1, hj => cases hj; exact ⟨by simp [env0, V0], rfl⟩
end Go.Ab
