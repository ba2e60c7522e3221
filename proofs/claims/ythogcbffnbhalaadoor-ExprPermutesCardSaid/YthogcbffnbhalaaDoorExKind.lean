/- The kind of an expression, on both sides. -/
import Derived.Test.YthogcbffnbhalaaDoorExCheck3
namespace Go.Proofs.YthogcbffnbhalaaDoor
set_option linter.unusedVariables false
open Go.RowKit

def kindR (e : Ex) : Int × Int := if arity e.op < 0 then (0, 1) else (kindOf e.op, 0)

end Go.Proofs.YthogcbffnbhalaaDoor

