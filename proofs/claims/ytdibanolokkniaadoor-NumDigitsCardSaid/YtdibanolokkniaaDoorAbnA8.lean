/- The number statements' own example, by the kernel's own reckoning. No conditions. -/
import Derived.Test.YtdibanolokkniaaDoorAbnA1
namespace Go.Ab
open Go.Proofs
def isOk : Option Out → Bool
  | some (.tree (.bool true), []) => true
  | _ => false
theorem isOk_eq {o : Option Out} (h : isOk o = true) : o = some (.tree (.bool true), []) := by
  unfold isOk at h
  split at h
  · rfl
  · cases h
theorem awakeN_eq : evalFn Tryd.prog cfg0 100000 12 12 [] = some (.tree (.bool true), []) := isOk_eq (by kernel_rfl)
theorem cAwakeN (D : Nat) (s : St) : callA cfg0 (evalFn Tryd.prog cfg0 100000 12) D s 12 [] = some (.bool true, s) := callA_0 _ _ _ _ _ awakeN_eq
end Go.Ab
