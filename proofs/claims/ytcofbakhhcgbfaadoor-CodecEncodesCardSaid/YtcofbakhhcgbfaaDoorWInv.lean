/- Words of the kit's print, as it laid them for this seat: those alone that this seat's texts name (the rest left out by slim.py, a program of this session; not trusted: Lean checks it). -/
import Derived.Test.YtcofbakhhcgbfaaDoorWTab
/-! ### 57. A region of open order by ONE relation over what is listed so far: each operation is shown once, whatever came up before it -/
namespace Go.Proofs.YtcofbakhhcgbfaaDoorW.PrintLast
section
variable {P : Program} {ops : Array Oper} {Q : Exit → Act → World → Prop} {md : Region.Mode} {T : Bool × List (List Nat × List Nat)} {B : List Nat} {O : List Nat} {b : Nat → Bool} {i j n : Nat}
/-! The frame: what is listed has its destination filled. -/
end
end Go.Proofs.YtcofbakhhcgbfaaDoorW.PrintLast
