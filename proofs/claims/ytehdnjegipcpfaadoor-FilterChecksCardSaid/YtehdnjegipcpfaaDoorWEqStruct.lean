/- Words that the kit's print.sh printed, as far as the texts of this seat use them (cut by a program of this session's). -/
import Derived.Test.YtehdnjegipcpfaaDoorWWords
import Derived.Laws.StructEq
namespace Go.Proofs.YtehdnjegipcpfaaDoorW.PrintWords
open Go.RowKit
section
variable {P : Program} {d : Nat} {xs ys : Array Value} {f : Field} {fs : List Field} {a b : Value} {r s : Bool} {w : World}
end
end Go.Proofs.YtehdnjegipcpfaaDoorW.PrintWords
