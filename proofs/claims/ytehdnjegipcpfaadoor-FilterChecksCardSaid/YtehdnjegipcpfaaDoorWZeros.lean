/- Words that the kit's print.sh printed, as far as the texts of this seat use them (cut by a program of this session's). -/
import Derived.Test.YtehdnjegipcpfaaDoorWApart
import Derived.Test.YtehdnjegipcpfaaDoorWArr
namespace Go.Proofs.YtehdnjegipcpfaaDoorW.PrintWords
open Go.RowKit
section
variable {P : Program}
end
namespace Kd
section
variable {P : Program} {ops : Array Oper} {rest : List Oper} {o : Oper} {a : Act} {Q : Exit → Act → World → Prop} {Kc : Act → World → Prop} {α : Type}
end
section
variable {α : Type} {d : Kd α} {e : Nat} {w : World} {base : Nat} {ok : Nat → Prop} {v : Value} {xs : List α}
end
section
variable {P : Program} {ops : Array Oper} {rest : List Oper} {o : Oper} {a : Act} {Q : Exit → Act → World → Prop} {Kc : Act → World → Prop} {α : Type}
end
end Kd
end Go.Proofs.YtehdnjegipcpfaaDoorW.PrintWords
