/- Shifts of numbers, however far. Conditions: numbers that are shown. -/
import Derived.Test.YtaifnpbgamookaaDoorAbtA7a
namespace Go.Ab
open Go.Proofs
set_option maxRecDepth 100000
set_option linter.unusedSimpArgs false

end Go.Ab
