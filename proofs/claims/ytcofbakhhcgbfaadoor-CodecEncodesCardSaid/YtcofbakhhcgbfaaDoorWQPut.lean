/- Words of the kit's print, as it laid them for this seat: those alone that this seat's texts name (the rest left out by slim.py, a program of this session; not trusted: Lean checks it). -/
import Derived.Test.YtcofbakhhcgbfaaDoorWWords
import Derived.Test.YtcofbakhhcgbfaaDoorWLast
/-! ### 39. Stores into a row that may begin inside its block (Q): Q_form, Q_elem, Q_seg; scalars: Q_cell, Q_putg -/
namespace Go.Proofs.YtcofbakhhcgbfaaDoorW.PrintWords
open Go.RowKit
namespace Kd
section
variable {α : Type} {d : Kd α} {e base g o n cap : Nat} {ok okp : Nat → Prop} {w W : World} {v : Value} {xs : List α}
end
section
variable {α : Type} {enc : α → Value} {h1 : ∀ x, (enc x).oneCell' = true} {e base g o n cap : Nat} {ok : Nat → Prop} {W : World} {xs : List α}
end
end Kd
end Go.Proofs.YtcofbakhhcgbfaaDoorW.PrintWords
