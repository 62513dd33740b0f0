/- Words of the kit's print, as it laid them for this seat: those alone that this seat's texts name (the rest left out by slim.py, a program of this session; not trusted: Lean checks it). -/
import Derived.Test.YtcofbakhhcgbfaaDoorWInv
import Derived.Test.YtcofbakhhcgbfaaDoorWFootNe
namespace Go.Proofs.YtcofbakhhcgbfaaDoorW.PrintWords
open Go.RowKit
end Go.Proofs.YtcofbakhhcgbfaaDoorW.PrintWords
namespace Go.Proofs.YtcofbakhhcgbfaaDoorW.PrintLast
section
variable {ops : Array Oper} {a : Act} {o og : Oper} {g : Nat} {t : Tmp} {u : Bool}
end
end Go.Proofs.YtcofbakhhcgbfaaDoorW.PrintLast
