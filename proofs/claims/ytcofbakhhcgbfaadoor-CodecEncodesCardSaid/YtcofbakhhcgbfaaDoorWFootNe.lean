/- Words of the kit's print, as it laid them for this seat: those alone that this seat's texts name (the rest left out by slim.py, a program of this session; not trusted: Lean checks it). -/
import Derived.Test.YtcofbakhhcgbfaaDoorWN
/-! ### 52. A row that stays read whatever happens to a block (a set of blocks) doesn't lie there -/
namespace Go.Proofs.YtcofbakhhcgbfaaDoorW.PrintWords
open Go.RowKit
namespace Kd
section
variable {α : Type} {d : Kd α} {W : World} {g n : Nat} {S ok : Nat → Prop} {A : Option Addr} {ad : Addr} {xs : List α}
end
end Kd
end Go.Proofs.YtcofbakhhcgbfaaDoorW.PrintWords
