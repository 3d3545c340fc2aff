/- What is known of functions that are not run: strings.Join. No conditions. -/
import Derived.Test.YtdibanolokkniaaDoorAbPrim
namespace Go.Ab
def prim0 (f : FuncId) (xs : List Arg) : Option Out := if f == 62 then joinP xs else none
end Go.Ab
