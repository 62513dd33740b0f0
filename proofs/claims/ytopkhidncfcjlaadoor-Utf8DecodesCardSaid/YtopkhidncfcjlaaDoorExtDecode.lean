/- redactor/utf8.Decode at every slice of bytes that is read: it returns what the plain function 'utf8_Decode.f' says. Condition: the library's two tables stand in memory. -/
import Derived.Test.YtopkhidncfcjlaaDoorPX0
import Derived.Test.YtopkhidncfcjlaaDoorPD1
namespace Go.Proofs.YtopkhidncfcjlaaDoor.PX
open Go.RowKit Go.Proofs.YtopkhidncfcjlaaDoorW.PrintWords Go.Proofs.YtopkhidncfcjlaaDoorW.PrintLast Go.Proofs.YtopkhidncfcjlaaDoorW.PrintMore
set_option linter.unusedVariables false

def utf8_Decode.f (k : Nat) (l0 : List Int) : Option (List Int) := PD.utf8_Decode.f k l0
theorem utf8_Decode.mono : ∀ a0 k, LeO (utf8_Decode.f k a0) (utf8_Decode.f (k + 1) a0) := PD.utf8_Decode.mono
theorem utf8_Decode.calls (k : Nat) (A0 : Option Addr) (c0 : Nat) (l0 : List Int) (r : List Int) (w : World) (hr0 : Kd.C (Kd.int .u8) w A0 l0.length l0) (hc0 : l0.length ≤ c0) (hGL : (Lib.Utf8Tabs 0 1) w) (h : utf8_Decode.f k l0 = some r) :
    Calls Tryd.prog 12 #[.slice A0 l0.length c0] w fun e w' => ∃ v0_ : Value, e = .returned (v0_) ∧ Kd.R (Kd.int .i32) 32 w' w.heap.size (fun _ => True) v0_ r ∧ Below w.heap.size w w' := by
  have hs0 : Kd.V (Kd.int .u8) 5 w w.heap.size (fun k_ => k_ < w.heap.size) (.slice A0 l0.length c0) l0 :=
    Kd.V_mk hc0 (fun W' hW => (Kd.heap_int .u8).C (fun k hk => hW k hk hk) hr0)
  refine (PD.utf8_Decode.calls k (fun k_ => k_ < w.heap.size) A0 c0 l0 r w hs0 hGL h).mono ?_
  rintro e w' ⟨v, he, hR, hB⟩
  exact ⟨v, he, Kd.R_mono hR (fun _ _ => trivial), hB⟩
#print axioms utf8_Decode.calls
end Go.Proofs.YtopkhidncfcjlaaDoor.PX
