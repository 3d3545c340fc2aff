/- The walk of TermKinds: it gives true, and leaves memory below as it was. No conditions. -/
import Derived.Test.YtaifnpbgamookaaDoorAbtLawN
import Derived.Test.YtaifnpbgamookaaDoorAbtT5
namespace Go.Ab
open Go.Proofs Go.RowKit
theorem walkTKinds (p q : Int) (v0 : Value) (s : ByteArray) (w : World) (_ : (Lit.int .i64 p).wf = true) (_ : (Lit.int .i64 q).wf = true) (h0 : IsNum w v0) :
    Calls Tryd.prog 8 #[.int .i64 p, .int .i64 q, v0, .string s] w fun e w' => e = .returned (.bool true) ∧ Below w.heap.size w w' := by
  obtain ⟨b0, l0, g0, k0⟩ := numOf h0
  refine lawCalls mixed (vs := [.int .i64 p, .int .i64 q, v0, .string s]) (kinds_eqN p q b0 .l l0 g0 s.data.toList) rfl (st0_4' _ _ _ _) (fun j v hj => ?_) true rfl
  match j, hj with
  | 0, hj => cases hj; exact ⟨by simp [env0, V0], rfl⟩
  | 1, hj => cases hj; exact ⟨by simp [env0, V0], rfl⟩
  | 2, hj => cases hj; exact ⟨k0, isTree_N _ _ _⟩
  | 3, hj => cases hj; exact ⟨by simp [env0, V0], rfl⟩
end Go.Ab
