/- The two tables of unicode/utf8 stand in memory as Go lays them: what a listed row gives, and what outlives whatever a call makes. No conditions. -/
import Derived.Test.YtcofbakhhcgbfaaDoorRows
import Derived.Test.YtcofbakhhcgbfaaDoorWWords
import Derived.Lib.LaidU8T
import Derived.PinnedBridge
namespace Go.Proofs.YtcofbakhhcgbfaaDoor
open Go.RowKit Go.Proofs.YtcofbakhhcgbfaaDoorW.PrintWords

theorem gl_below {w w1 : World} (h : Lib.Utf8Tabs 0 1 w) (hb : Below w.heap.size w w1) : Lib.Utf8Tabs 0 1 w1 :=
  ⟨fun c hc => pw_cell_below hb (h.1 c hc), fun i hi => ⟨pw_cell_below hb (h.2 i hi).1, pw_cell_below hb (h.2 i hi).2⟩⟩

namespace ExtGl
def u8ren : Go.Shelf.Ren := ⟨fun n => n, fun | 5 => 5 | 119 => 93 | 138 => 95 | 139 => 96 | n => n, fun | 3 => 0 | 4 => 1 | n => n⟩
theorem types : U8Types Tryd.prog u8ren := ⟨Tryd.underlying5, Tryd.underlying93, Tryd.underlying95, Tryd.underlying96⟩
theorem extra : U8Extra Tryd.prog u8ren := ⟨by kernel_rfl, by kernel_rfl, by kernel_rfl, by kernel_rfl, by kernel_rfl, by kernel_rfl, by kernel_rfl⟩
theorem acc_eq : (Rows.laid_unicode_utf8_acceptRanges : DataW Unit) = Lib.acceptData := by kernel_rfl
theorem first_eq : Rows.laid_unicode_utf8_first = Lib.firstData := Pinned.utf8First_eq

theorem gl_of_laid {l : List (String × DataW Unit)} {W : World} (hL : laidMet Tryd.prog l W) (h1 : ("unicode/utf8.first", Rows.laid_unicode_utf8_first) ∈ l) (h2 : ("unicode/utf8.acceptRanges", (Rows.laid_unicode_utf8_acceptRanges : DataW Unit)) ∈ l) :
    Lib.Utf8Tabs 0 1 W :=
  utf8Tabs_of_readsT types extra (first_eq ▸ Lib.laidMet.reads hL h1) (acc_eq ▸ Lib.laidMet.reads hL h2)
end ExtGl
#print axioms ExtGl.gl_of_laid
end Go.Proofs.YtcofbakhhcgbfaaDoor
