/- opts.Parse with no files: its contract with the empty row written out. Conditions: arguments stand in memory. -/
import Derived.Test.YtceflmoiiiclcaaDoorExtParse
namespace Go.Proofs.YtceflmoiiiclcaaDoor.PX
set_option linter.unusedVariables false
open Go.RowKit Go.Proofs.YtceflmoiiiclcaaDoorW.PrintWords Go.Proofs.YtceflmoiiiclcaaDoor.EC
theorem opts_Parse.calls_nil (k : Nat) (A0 : Option Addr) (c0 : Nat) (l0 : List ByteArray) (r0 r1 r2 r3 : Bool) (r4 : ByteArray) (r5 : Int) (r6 : ByteArray) (r7 : List ByteArray) (r8 r9 : Int) (w : World) (hr0 : Kd.C Kd.string w A0 l0.length l0) (hc0 : l0.length ≤ c0)
    (h : opts_Parse.f k l0 ([] : List S54) = some (r0, r1, r2, r3, r4, r5, r6, r7, r8, r9)) :
    Calls Tryd.prog 14 #[.slice A0 l0.length c0, .slice none 0 0] w fun e w' => ∃ v0_ : Value, e = .returned (.tuple #[.agg #[.bool r0, .bool r1, .bool r2, .bool r3, .string r4, .int .u8 r5, .string r6, v0_], .int .u16 r8, .int .i64 r9]) ∧ Kd.Q Kd.string 9 w' w.heap.size (fun _ => True) v0_ r7 ∧ Below w.heap.size w w' :=
  opts_Parse.calls k A0 c0 l0 none 0 ([] : List S54) r0 r1 r2 r3 r4 r5 r6 r7 r8 r9 w hr0 hc0 (Kd.C_nil _ _) (Nat.le_refl _) h
#print axioms opts_Parse.calls_nil
end Go.Proofs.YtceflmoiiiclcaaDoor.PX
