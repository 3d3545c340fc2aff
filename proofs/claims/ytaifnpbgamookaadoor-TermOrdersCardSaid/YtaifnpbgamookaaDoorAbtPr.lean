/- How the abstract run takes this program's functions; what is known of functions that are not run: strings.Join. No conditions. -/
import Derived.Test.YtaifnpbgamookaaDoorAbPrim
namespace Go.Ab
def prim0 (f : FuncId) (xs : List Arg) : Option Out := if f == 28 then joinP xs else none
def cfg0 : Cfg := ⟨fun _ _ => false, fun _ => false, prim0⟩
theorem zbh (f : FuncId) : cfg0.keep f = false := rfl
theorem lin0 (f : FuncId) (j : Nat) : cfg0.lin f j = false := rfl
end Go.Ab
