/- Words that the kit's print.sh printed, as far as the texts of this seat use them (cut by a program of this session's). -/
import Derived.Test.YtehdnjegipcpfaaDoorWInv
import Derived.Test.YtehdnjegipcpfaaDoorWFootNe
namespace Go.Proofs.YtehdnjegipcpfaaDoorW.PrintWords
open Go.RowKit
end Go.Proofs.YtehdnjegipcpfaaDoorW.PrintWords
namespace Go.Proofs.YtehdnjegipcpfaaDoorW.PrintLast
section
variable {ops : Array Oper} {a : Act} {o og : Oper} {g : Nat} {t : Tmp} {u : Bool}
end
end Go.Proofs.YtehdnjegipcpfaaDoorW.PrintLast
