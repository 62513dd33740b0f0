/- Words of the kit's print, as it laid them for this seat: those alone that this seat's texts name (the rest left out by slim.py, a program of this session; not trusted: Lean checks it). -/
import Derived.Test.YtcofbakhhcgbfaaDoorWTab
/-! ### 56. Four, five, six operations that may come up next, in any order -/
namespace Go.Proofs.YtcofbakhhcgbfaaDoorW.PrintLast
section
variable {P : Program} {ops : Array Oper} {Q : Exit → Act → World → Prop} {md : Region.Mode} {S : World → Prop} {ds : List Nat} {T : Bool × List (List Nat × List Nat)}
end
end Go.Proofs.YtcofbakhhcgbfaaDoorW.PrintLast
