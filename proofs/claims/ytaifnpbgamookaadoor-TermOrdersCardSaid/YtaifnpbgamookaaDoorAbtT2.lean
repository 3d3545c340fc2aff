/- The term statements' own example, by the kernel's own reckoning. No conditions. -/
import Derived.Test.YtaifnpbgamookaaDoorAbtT1
namespace Go.Ab
open Go.Proofs
def isOkT : Option Out → Bool
  | some (.tree (.bool true), []) => true
  | _ => false
theorem isOkT_eq {o : Option Out} (h : isOkT o = true) : o = some (.tree (.bool true), []) := by
  unfold isOkT at h
  split at h
  · rfl
  · cases h
theorem awakeT_eq : evalFn Tryd.prog cfg0 100000 14 12 [] = some (.tree (.bool true), []) := isOkT_eq (by kernel_rfl)
end Go.Ab
