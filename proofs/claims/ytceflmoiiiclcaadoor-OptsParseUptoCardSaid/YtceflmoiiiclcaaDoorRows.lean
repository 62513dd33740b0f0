/-
  NARROWER THAN 'FOR EVERY INPUT', by the rows' own cells (each row's printed sentence says how): OptsPrints: laid · OptsBack: laid · OptsNone: laid · OptsLong: laid · OptsParse: laid · OptsApart: laid · OptsFragments: laid.
  DERIVED. THE GIVEN ROWS OF THIS SEAT. 7 by the template 'for every input the law returns true; each argument reads behind the call as it read before'; 0 by the template 'total and deterministic' (their statements: YtceflmoiiiclcaaDoorTotals.lean).
  GIVEN WITH THE SEED: the statements are not yours to turn. If you find one false, say at which input.
  Laid BY PROGRAM, IN A SANDBOX (cutbox-rows.mjs): the forced cells as the released guide's own fill.sh prints them over the translation be3b35cccbcef454… (all of the seat's roots in one cut). By AI agents, Wed Nov 11 2026. No macro, syntax, notation, axiom, sorry.
-/
import Derived.Test.YtceflmoiiiclcaaDoorChecked
import GoSem.PinnedTables
import GoSem.Claim
import GoSem.ClaimJoined
import GoSem.ClaimMapViews
import Derived.JoinedTies
import Derived.KernelRfl
namespace Go.Proofs.YtceflmoiiiclcaaDoor
/- THE CELL 'sum', in the pinned program and in every row, IS THE sha256 OF THE DUMP (.gsa) THAT YtceflmoiiiclcaaDoorProg.lean LOADS. Nothing in Lean hashes anything: it is a label: what it is worth is what the hold of that sum in a sandbox is worth. -/
noncomputable def Tryd.pinned : Pinned := { name := "ytceflmoiiiclcaadoor", sum := "be3b35cccbcef454ca9db1bc48af320d868f5163ac9e736b614d0380baed6e9a", checked := Tryd.checked }
namespace Rows
def none {H : Type} : Left H := { results := [], args := [] }

/- WHAT THE LISTED PACKAGE-LEVEL VARIABLES READ AS WHEN THE CALL BEGINS. Each datum BY PROGRAM (the guide's laid-datum.mjs) off the statement by which the dump's own 'gosem.cut.vars' lays the variable. In a bare row this is a premise. The card (YtceflmoiiiclcaaDoorCards.lean) ties it to the program's text. -/
def laid_unicode_utf8_acceptRanges {H : Type} : DataW H := .agg [.agg [.lit (.int .u8 128), .lit (.int .u8 191)], .agg [.lit (.int .u8 160), .lit (.int .u8 191)], .agg [.lit (.int .u8 128), .lit (.int .u8 159)], .agg [.lit (.int .u8 144), .lit (.int .u8 191)], .agg [.lit (.int .u8 128), .lit (.int .u8 143)], .agg [.lit (.int .u8 0), .lit (.int .u8 0)], .agg [.lit (.int .u8 0), .lit (.int .u8 0)], .agg [.lit (.int .u8 0), .lit (.int .u8 0)], .agg [.lit (.int .u8 0), .lit (.int .u8 0)], .agg [.lit (.int .u8 0), .lit (.int .u8 0)], .agg [.lit (.int .u8 0), .lit (.int .u8 0)], .agg [.lit (.int .u8 0), .lit (.int .u8 0)], .agg [.lit (.int .u8 0), .lit (.int .u8 0)], .agg [.lit (.int .u8 0), .lit (.int .u8 0)], .agg [.lit (.int .u8 0), .lit (.int .u8 0)], .agg [.lit (.int .u8 0), .lit (.int .u8 0)]]
/-- One of Go's own tables, pinned by name: the form's constant. -/
def laid_unicode_utf8_first : DataW Unit := Go.Pinned.utf8First

/-- 'redactorlaw19.OptsPrints': WHATEVER THE INPUT: true; the input reads as it did. -/
def optsPrintsSpec : ChangeSpec := { name := "optsPrints", fn := fun _ => fun
  | [d] => { results := [.lit (.bool true)], args := [d] }
  | _ => none }
def optsPrintsRow : OpenClaim := { program := "ytceflmoiiiclcaadoor", sum := "be3b35cccbcef454ca9db1bc48af320d868f5163ac9e736b614d0380baed6e9a", func := "redactor/redactorlaw19.OptsPrints", spec := "optsPrints", inPlace := ["internal/abi.NoEscape", "internal/bytealg.MakeNoZero"], unfollowed := true, recurses := true, named := ["unicode/utf8.first", "unicode/utf8.acceptRanges"], apart := false, laid := [("unicode/utf8.acceptRanges", laid_unicode_utf8_acceptRanges), ("unicode/utf8.first", laid_unicode_utf8_first)] }
def OptsPrintsSaid : Prop := optsPrintsRow.holds Tryd.pinned (OpenSpec.ofChange optsPrintsSpec)

/-- ITS FALSE NEIGHBOUR: 'it returns false'. Refute it at one input. -/
def optsPrintsWrong : ChangeSpec := { name := "optsPrints", fn := fun _ => fun
  | [d] => { results := [.lit (.bool false)], args := [d] }
  | _ => none }
def OptsPrintsWrongFalsely : Prop := optsPrintsRow.holds Tryd.pinned (OpenSpec.ofChange optsPrintsWrong)

/-- 'redactorlaw19.OptsBack': WHATEVER THE INPUT: true; the input reads as it did. -/
def optsBackSpec : ChangeSpec := { name := "optsBack", fn := fun _ => fun
  | [d] => { results := [.lit (.bool true)], args := [d] }
  | _ => none }
def optsBackRow : OpenClaim := { program := "ytceflmoiiiclcaadoor", sum := "be3b35cccbcef454ca9db1bc48af320d868f5163ac9e736b614d0380baed6e9a", func := "redactor/redactorlaw19.OptsBack", spec := "optsBack", inPlace := ["internal/abi.NoEscape", "internal/bytealg.MakeNoZero"], unfollowed := true, recurses := true, named := ["unicode/utf8.first", "unicode/utf8.acceptRanges"], apart := false, laid := [("unicode/utf8.acceptRanges", laid_unicode_utf8_acceptRanges), ("unicode/utf8.first", laid_unicode_utf8_first)] }
def OptsBackSaid : Prop := optsBackRow.holds Tryd.pinned (OpenSpec.ofChange optsBackSpec)

/-- ITS FALSE NEIGHBOUR: 'it returns false'. Refute it at one input. -/
def optsBackWrong : ChangeSpec := { name := "optsBack", fn := fun _ => fun
  | [d] => { results := [.lit (.bool false)], args := [d] }
  | _ => none }
def OptsBackWrongFalsely : Prop := optsBackRow.holds Tryd.pinned (OpenSpec.ofChange optsBackWrong)

/-- 'redactorlaw19.OptsNone': WHATEVER THE INPUT: true; the input reads as it did. -/
def optsNoneSpec : ChangeSpec := { name := "optsNone", fn := fun _ => fun
  | [d1, d2] => { results := [.lit (.bool true)], args := [d1, d2] }
  | _ => none }
def optsNoneRow : OpenClaim := { program := "ytceflmoiiiclcaadoor", sum := "be3b35cccbcef454ca9db1bc48af320d868f5163ac9e736b614d0380baed6e9a", func := "redactor/redactorlaw19.OptsNone", spec := "optsNone", inPlace := ["internal/abi.NoEscape", "internal/bytealg.MakeNoZero"], unfollowed := true, recurses := true, named := ["unicode/utf8.first", "unicode/utf8.acceptRanges"], apart := false, laid := [("unicode/utf8.acceptRanges", laid_unicode_utf8_acceptRanges), ("unicode/utf8.first", laid_unicode_utf8_first)] }
def OptsNoneSaid : Prop := optsNoneRow.holds Tryd.pinned (OpenSpec.ofChange optsNoneSpec)

/-- ITS FALSE NEIGHBOUR: 'it returns false'. Refute it at one input. -/
def optsNoneWrong : ChangeSpec := { name := "optsNone", fn := fun _ => fun
  | [d1, d2] => { results := [.lit (.bool false)], args := [d1, d2] }
  | _ => none }
def OptsNoneWrongFalsely : Prop := optsNoneRow.holds Tryd.pinned (OpenSpec.ofChange optsNoneWrong)

/-- 'redactorlaw19.OptsLong': WHATEVER THE INPUT: true; the input reads as it did. -/
def optsLongSpec : ChangeSpec := { name := "optsLong", fn := fun _ => fun
  | [d] => { results := [.lit (.bool true)], args := [d] }
  | _ => none }
def optsLongRow : OpenClaim := { program := "ytceflmoiiiclcaadoor", sum := "be3b35cccbcef454ca9db1bc48af320d868f5163ac9e736b614d0380baed6e9a", func := "redactor/redactorlaw19.OptsLong", spec := "optsLong", inPlace := ["internal/abi.NoEscape", "internal/bytealg.MakeNoZero"], unfollowed := true, recurses := true, named := ["unicode/utf8.first", "unicode/utf8.acceptRanges"], apart := false, laid := [("unicode/utf8.acceptRanges", laid_unicode_utf8_acceptRanges), ("unicode/utf8.first", laid_unicode_utf8_first)] }
def OptsLongSaid : Prop := optsLongRow.holds Tryd.pinned (OpenSpec.ofChange optsLongSpec)

/-- ITS FALSE NEIGHBOUR: 'it returns false'. Refute it at one input. -/
def optsLongWrong : ChangeSpec := { name := "optsLong", fn := fun _ => fun
  | [d] => { results := [.lit (.bool false)], args := [d] }
  | _ => none }
def OptsLongWrongFalsely : Prop := optsLongRow.holds Tryd.pinned (OpenSpec.ofChange optsLongWrong)

/-- 'redactorlaw19.OptsParse': WHATEVER THE INPUT: true; the input reads as it did. -/
def optsParseSpec : ChangeSpec := { name := "optsParse", fn := fun _ => fun
  | [d1, d2, d3] => { results := [.lit (.bool true)], args := [d1, d2, d3] }
  | _ => none }
def optsParseRow : OpenClaim := { program := "ytceflmoiiiclcaadoor", sum := "be3b35cccbcef454ca9db1bc48af320d868f5163ac9e736b614d0380baed6e9a", func := "redactor/redactorlaw19.OptsParse", spec := "optsParse", inPlace := ["internal/abi.NoEscape", "internal/bytealg.MakeNoZero"], unfollowed := true, recurses := true, named := ["unicode/utf8.first", "unicode/utf8.acceptRanges"], apart := false, laid := [("unicode/utf8.acceptRanges", laid_unicode_utf8_acceptRanges), ("unicode/utf8.first", laid_unicode_utf8_first)] }
def OptsParseSaid : Prop := optsParseRow.holds Tryd.pinned (OpenSpec.ofChange optsParseSpec)

/-- ITS FALSE NEIGHBOUR: 'it returns false'. Refute it at one input. -/
def optsParseWrong : ChangeSpec := { name := "optsParse", fn := fun _ => fun
  | [d1, d2, d3] => { results := [.lit (.bool false)], args := [d1, d2, d3] }
  | _ => none }
def OptsParseWrongFalsely : Prop := optsParseRow.holds Tryd.pinned (OpenSpec.ofChange optsParseWrong)

/-- 'redactorlaw19.OptsApart': WHATEVER THE INPUT: true; the input reads as it did. -/
def optsApartSpec : ChangeSpec := { name := "optsApart", fn := fun _ => fun
  | [d1, d2] => { results := [.lit (.bool true)], args := [d1, d2] }
  | _ => none }
def optsApartRow : OpenClaim := { program := "ytceflmoiiiclcaadoor", sum := "be3b35cccbcef454ca9db1bc48af320d868f5163ac9e736b614d0380baed6e9a", func := "redactor/redactorlaw19.OptsApart", spec := "optsApart", inPlace := ["internal/abi.NoEscape", "internal/bytealg.MakeNoZero"], unfollowed := true, recurses := true, named := ["unicode/utf8.first", "unicode/utf8.acceptRanges"], apart := false, laid := [("unicode/utf8.acceptRanges", laid_unicode_utf8_acceptRanges), ("unicode/utf8.first", laid_unicode_utf8_first)] }
def OptsApartSaid : Prop := optsApartRow.holds Tryd.pinned (OpenSpec.ofChange optsApartSpec)

/-- ITS FALSE NEIGHBOUR: 'it returns false'. Refute it at one input. -/
def optsApartWrong : ChangeSpec := { name := "optsApart", fn := fun _ => fun
  | [d1, d2] => { results := [.lit (.bool false)], args := [d1, d2] }
  | _ => none }
def OptsApartWrongFalsely : Prop := optsApartRow.holds Tryd.pinned (OpenSpec.ofChange optsApartWrong)

/-- 'redactorlaw19.OptsFragments': WHATEVER THE INPUT: true; the input reads as it did. -/
def optsFragmentsSpec : ChangeSpec := { name := "optsFragments", fn := fun _ => fun
  | [d] => { results := [.lit (.bool true)], args := [d] }
  | _ => none }
def optsFragmentsRow : OpenClaim := { program := "ytceflmoiiiclcaadoor", sum := "be3b35cccbcef454ca9db1bc48af320d868f5163ac9e736b614d0380baed6e9a", func := "redactor/redactorlaw19.OptsFragments", spec := "optsFragments", inPlace := ["internal/abi.NoEscape", "internal/bytealg.MakeNoZero"], unfollowed := true, recurses := true, named := ["unicode/utf8.first", "unicode/utf8.acceptRanges"], apart := false, laid := [("unicode/utf8.acceptRanges", laid_unicode_utf8_acceptRanges), ("unicode/utf8.first", laid_unicode_utf8_first)] }
def OptsFragmentsSaid : Prop := optsFragmentsRow.holds Tryd.pinned (OpenSpec.ofChange optsFragmentsSpec)

/-- ITS FALSE NEIGHBOUR: 'it returns false'. Refute it at one input. -/
def optsFragmentsWrong : ChangeSpec := { name := "optsFragments", fn := fun _ => fun
  | [d] => { results := [.lit (.bool false)], args := [d] }
  | _ => none }
def OptsFragmentsWrongFalsely : Prop := optsFragmentsRow.holds Tryd.pinned (OpenSpec.ofChange optsFragmentsWrong)

/- THE SECOND FORM. 'bulk': how many values and letters a reading holds, each counted each time it is reached (what is shared counts as often as it is met; a slice's spare places count too). A statement '..UptoSaid' is the law's where the arguments, and the package variables that the reading takes, are together of bulk at most 1048576: NARROWER than '..Said'. Prove '..Said' where nothing that the law and all that it calls make is longer than what came in: it says more and counts as full. Else prove '..UptoSaid'. A law counts once. -/
mutual
def uptoBulk {H : Type} : DataW H → Nat
  | .lit (.string bytes) => bytes.length + 1
  | .lit _ => 1
  | .nil => 1
  | .ptr d => uptoBulk d + 1
  | .slice elems spare => uptoBulkAll elems + uptoBulkAll spare + 1
  | .agg parts => uptoBulkAll parts + 1
  | .iface _ d => uptoBulk d + 1
  | .map entries => uptoBulkEntries entries + 1
  | .held _ => 1
def uptoBulkAll {H : Type} : List (DataW H) → Nat
  | [] => 0
  | d :: r => uptoBulk d + uptoBulkAll r
def uptoBulkEntries {H : Type} : List (Lit × DataW H) → Nat
  | [] => 0
  | x :: r => uptoBulkEntry x + uptoBulkEntries r
def uptoBulkEntry {H : Type} : Lit × DataW H → Nat
  | (.string bytes, d) => bytes.length + uptoBulk d + 1
  | (_, d) => uptoBulk d + 1
 end
def uptoSmall : (H : Type) → List (DataW H) → Bool := fun _ ds => decide (uptoBulkAll ds ≤ 1048576)
def OpenSpec.upto (s : _root_.Go.ChangeSpec) : _root_.Go.OpenSpec := { _root_.Go.OpenSpec.ofChange s with cond := some uptoSmall }

/-- 'redactorlaw19.OptsPrints', WHERE WHAT IT READS IS OF BULK AT MOST 1048576: true; the input reads as it did. -/
def optsPrintsUptoRow : OpenClaim := { program := "ytceflmoiiiclcaadoor", sum := "be3b35cccbcef454ca9db1bc48af320d868f5163ac9e736b614d0380baed6e9a", func := "redactor/redactorlaw19.OptsPrints", spec := "optsPrints", inPlace := ["internal/abi.NoEscape", "internal/bytealg.MakeNoZero"], unfollowed := true, recurses := true, named := ["unicode/utf8.first", "unicode/utf8.acceptRanges"], apart := false, laid := [("unicode/utf8.acceptRanges", laid_unicode_utf8_acceptRanges), ("unicode/utf8.first", laid_unicode_utf8_first)], narrowed := true }
def OptsPrintsUptoSaid : Prop := optsPrintsUptoRow.holds Tryd.pinned (OpenSpec.upto optsPrintsSpec)

/-- 'redactorlaw19.OptsBack', WHERE WHAT IT READS IS OF BULK AT MOST 1048576: true; the input reads as it did. -/
def optsBackUptoRow : OpenClaim := { program := "ytceflmoiiiclcaadoor", sum := "be3b35cccbcef454ca9db1bc48af320d868f5163ac9e736b614d0380baed6e9a", func := "redactor/redactorlaw19.OptsBack", spec := "optsBack", inPlace := ["internal/abi.NoEscape", "internal/bytealg.MakeNoZero"], unfollowed := true, recurses := true, named := ["unicode/utf8.first", "unicode/utf8.acceptRanges"], apart := false, laid := [("unicode/utf8.acceptRanges", laid_unicode_utf8_acceptRanges), ("unicode/utf8.first", laid_unicode_utf8_first)], narrowed := true }
def OptsBackUptoSaid : Prop := optsBackUptoRow.holds Tryd.pinned (OpenSpec.upto optsBackSpec)

/-- 'redactorlaw19.OptsNone', WHERE WHAT IT READS IS OF BULK AT MOST 1048576: true; the input reads as it did. -/
def optsNoneUptoRow : OpenClaim := { program := "ytceflmoiiiclcaadoor", sum := "be3b35cccbcef454ca9db1bc48af320d868f5163ac9e736b614d0380baed6e9a", func := "redactor/redactorlaw19.OptsNone", spec := "optsNone", inPlace := ["internal/abi.NoEscape", "internal/bytealg.MakeNoZero"], unfollowed := true, recurses := true, named := ["unicode/utf8.first", "unicode/utf8.acceptRanges"], apart := false, laid := [("unicode/utf8.acceptRanges", laid_unicode_utf8_acceptRanges), ("unicode/utf8.first", laid_unicode_utf8_first)], narrowed := true }
def OptsNoneUptoSaid : Prop := optsNoneUptoRow.holds Tryd.pinned (OpenSpec.upto optsNoneSpec)

/-- 'redactorlaw19.OptsLong', WHERE WHAT IT READS IS OF BULK AT MOST 1048576: true; the input reads as it did. -/
def optsLongUptoRow : OpenClaim := { program := "ytceflmoiiiclcaadoor", sum := "be3b35cccbcef454ca9db1bc48af320d868f5163ac9e736b614d0380baed6e9a", func := "redactor/redactorlaw19.OptsLong", spec := "optsLong", inPlace := ["internal/abi.NoEscape", "internal/bytealg.MakeNoZero"], unfollowed := true, recurses := true, named := ["unicode/utf8.first", "unicode/utf8.acceptRanges"], apart := false, laid := [("unicode/utf8.acceptRanges", laid_unicode_utf8_acceptRanges), ("unicode/utf8.first", laid_unicode_utf8_first)], narrowed := true }
def OptsLongUptoSaid : Prop := optsLongUptoRow.holds Tryd.pinned (OpenSpec.upto optsLongSpec)

/-- 'redactorlaw19.OptsParse', WHERE WHAT IT READS IS OF BULK AT MOST 1048576: true; the input reads as it did. -/
def optsParseUptoRow : OpenClaim := { program := "ytceflmoiiiclcaadoor", sum := "be3b35cccbcef454ca9db1bc48af320d868f5163ac9e736b614d0380baed6e9a", func := "redactor/redactorlaw19.OptsParse", spec := "optsParse", inPlace := ["internal/abi.NoEscape", "internal/bytealg.MakeNoZero"], unfollowed := true, recurses := true, named := ["unicode/utf8.first", "unicode/utf8.acceptRanges"], apart := false, laid := [("unicode/utf8.acceptRanges", laid_unicode_utf8_acceptRanges), ("unicode/utf8.first", laid_unicode_utf8_first)], narrowed := true }
def OptsParseUptoSaid : Prop := optsParseUptoRow.holds Tryd.pinned (OpenSpec.upto optsParseSpec)

/-- 'redactorlaw19.OptsApart', WHERE WHAT IT READS IS OF BULK AT MOST 1048576: true; the input reads as it did. -/
def optsApartUptoRow : OpenClaim := { program := "ytceflmoiiiclcaadoor", sum := "be3b35cccbcef454ca9db1bc48af320d868f5163ac9e736b614d0380baed6e9a", func := "redactor/redactorlaw19.OptsApart", spec := "optsApart", inPlace := ["internal/abi.NoEscape", "internal/bytealg.MakeNoZero"], unfollowed := true, recurses := true, named := ["unicode/utf8.first", "unicode/utf8.acceptRanges"], apart := false, laid := [("unicode/utf8.acceptRanges", laid_unicode_utf8_acceptRanges), ("unicode/utf8.first", laid_unicode_utf8_first)], narrowed := true }
def OptsApartUptoSaid : Prop := optsApartUptoRow.holds Tryd.pinned (OpenSpec.upto optsApartSpec)

/-- 'redactorlaw19.OptsFragments', WHERE WHAT IT READS IS OF BULK AT MOST 1048576: true; the input reads as it did. -/
def optsFragmentsUptoRow : OpenClaim := { program := "ytceflmoiiiclcaadoor", sum := "be3b35cccbcef454ca9db1bc48af320d868f5163ac9e736b614d0380baed6e9a", func := "redactor/redactorlaw19.OptsFragments", spec := "optsFragments", inPlace := ["internal/abi.NoEscape", "internal/bytealg.MakeNoZero"], unfollowed := true, recurses := true, named := ["unicode/utf8.first", "unicode/utf8.acceptRanges"], apart := false, laid := [("unicode/utf8.acceptRanges", laid_unicode_utf8_acceptRanges), ("unicode/utf8.first", laid_unicode_utf8_first)], narrowed := true }
def OptsFragmentsUptoSaid : Prop := optsFragmentsUptoRow.holds Tryd.pinned (OpenSpec.upto optsFragmentsSpec)

end Rows
end Go.Proofs.YtceflmoiiiclcaaDoor
