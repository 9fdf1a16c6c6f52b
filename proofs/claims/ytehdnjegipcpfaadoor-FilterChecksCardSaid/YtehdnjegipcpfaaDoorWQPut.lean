/- Words that the kit's print.sh printed, as far as the texts of this seat use them (cut by a program of this session's). -/
import Derived.Test.YtehdnjegipcpfaaDoorWWords
import Derived.Test.YtehdnjegipcpfaaDoorWLast
namespace Go.Proofs.YtehdnjegipcpfaaDoorW.PrintWords
open Go.RowKit
namespace Kd
section
variable {α : Type} {d : Kd α} {e base g o n cap : Nat} {ok okp : Nat → Prop} {w W : World} {v : Value} {xs : List α}
end
section
variable {α : Type} {enc : α → Value} {h1 : ∀ x, (enc x).oneCell' = true} {e base g o n cap : Nat} {ok : Nat → Prop} {W : World} {xs : List α}
end
end Kd
end Go.Proofs.YtehdnjegipcpfaaDoorW.PrintWords
