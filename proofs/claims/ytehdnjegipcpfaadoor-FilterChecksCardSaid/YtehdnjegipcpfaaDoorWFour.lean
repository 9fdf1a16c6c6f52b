/- Words that the kit's print.sh printed, as far as the texts of this seat use them (cut by a program of this session's). -/
import Derived.Test.YtehdnjegipcpfaaDoorWTab
namespace Go.Proofs.YtehdnjegipcpfaaDoorW.PrintLast
section
variable {P : Program} {ops : Array Oper} {Q : Exit → Act → World → Prop} {md : Region.Mode} {S : World → Prop} {ds : List Nat} {T : Bool × List (List Nat × List Nat)}
end
end Go.Proofs.YtehdnjegipcpfaaDoorW.PrintLast
