/- Words of the kit's print, as it laid them for this seat: those alone that this seat's texts name (the rest left out by slim.py, a program of this session; not trusted: Lean checks it). -/
import Derived.Test.YtcofbakhhcgbfaaDoorWWords
import Derived.Laws.StructEq
/-! ### 53. '==' of structs as_ one Bool -/
namespace Go.Proofs.YtcofbakhhcgbfaaDoorW.PrintWords
open Go.RowKit
section
variable {P : Program} {d : Nat} {xs ys : Array Value} {f : Field} {fs : List Field} {a b : Value} {r s : Bool} {w : World}
end
end Go.Proofs.YtcofbakhhcgbfaaDoorW.PrintWords
