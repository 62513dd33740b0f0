/-
  DERIVED. GIVEN WITH THE SEED: THE CARDS: each row of YtceflmoiiiclcaaDoorRows.lean that lists a variable, with what it lists TIED to the program's text (the seventh form; the later family's looks); each row that meets fmt, with fmt's text TOLD by the authors' own Lean function (tested against real Go, not proved from fmt's source: count such statements apart). THE CARD IS WHAT COUNTS. Prove the row's statement (the work); the ties are given (YtceflmoiiiclcaaDoorTie.lean); close each card by the builder's one call (the guide's Derived/Test/ToyasCard.lean, 'card_holds'). Laid BY PROGRAM, IN A SANDBOX (cutbox-door.mjs). By AI agents, Wed Nov 11 2026. No macro, syntax, notation, axiom, sorry.
-/
import Derived.Test.YtceflmoiiiclcaaDoorRows
import GoSem.ClaimSeven
namespace Go.Proofs.YtceflmoiiiclcaaDoor
namespace Rows

/-- THE TIED CARD OF 'redactorlaw19.OptsPrints'. -/
def optsPrintsCard : Claim7 := { stood := { row := optsPrintsRow, standIns := [], harness := (true, "8a3b28cc00ac055319e32af5bbeded34ae94ab5e570333e57969828b8a42f32c"), looks := false }, kinds := [], alts := [], laidByText := true, laidKinds := [.data, .pinned], laidTests := true, laidLooks := .later }
def OptsPrintsCardSaid : Prop := Claim7.holds Tryd.pinned (.plain (OpenSpec.ofChange optsPrintsSpec)) optsPrintsCard

/-- THE TIED CARD OF 'redactorlaw19.OptsBack'. -/
def optsBackCard : Claim7 := { stood := { row := optsBackRow, standIns := [], harness := (true, "8a3b28cc00ac055319e32af5bbeded34ae94ab5e570333e57969828b8a42f32c"), looks := false }, kinds := [], alts := [], laidByText := true, laidKinds := [.data, .pinned], laidTests := true, laidLooks := .later }
def OptsBackCardSaid : Prop := Claim7.holds Tryd.pinned (.plain (OpenSpec.ofChange optsBackSpec)) optsBackCard

/-- THE TIED CARD OF 'redactorlaw19.OptsNone'. -/
def optsNoneCard : Claim7 := { stood := { row := optsNoneRow, standIns := [], harness := (true, "8a3b28cc00ac055319e32af5bbeded34ae94ab5e570333e57969828b8a42f32c"), looks := false }, kinds := [], alts := [], laidByText := true, laidKinds := [.data, .pinned], laidTests := true, laidLooks := .later }
def OptsNoneCardSaid : Prop := Claim7.holds Tryd.pinned (.plain (OpenSpec.ofChange optsNoneSpec)) optsNoneCard

/-- THE TIED CARD OF 'redactorlaw19.OptsLong'. -/
def optsLongCard : Claim7 := { stood := { row := optsLongRow, standIns := [], harness := (true, "8a3b28cc00ac055319e32af5bbeded34ae94ab5e570333e57969828b8a42f32c"), looks := false }, kinds := [], alts := [], laidByText := true, laidKinds := [.data, .pinned], laidTests := true, laidLooks := .later }
def OptsLongCardSaid : Prop := Claim7.holds Tryd.pinned (.plain (OpenSpec.ofChange optsLongSpec)) optsLongCard

/-- THE TIED CARD OF 'redactorlaw19.OptsParse'. -/
def optsParseCard : Claim7 := { stood := { row := optsParseRow, standIns := [], harness := (true, "8a3b28cc00ac055319e32af5bbeded34ae94ab5e570333e57969828b8a42f32c"), looks := false }, kinds := [], alts := [], laidByText := true, laidKinds := [.data, .pinned], laidTests := true, laidLooks := .later }
def OptsParseCardSaid : Prop := Claim7.holds Tryd.pinned (.plain (OpenSpec.ofChange optsParseSpec)) optsParseCard

/-- THE TIED CARD OF 'redactorlaw19.OptsApart'. -/
def optsApartCard : Claim7 := { stood := { row := optsApartRow, standIns := [], harness := (true, "8a3b28cc00ac055319e32af5bbeded34ae94ab5e570333e57969828b8a42f32c"), looks := false }, kinds := [], alts := [], laidByText := true, laidKinds := [.data, .pinned], laidTests := true, laidLooks := .later }
def OptsApartCardSaid : Prop := Claim7.holds Tryd.pinned (.plain (OpenSpec.ofChange optsApartSpec)) optsApartCard

/-- THE TIED CARD OF 'redactorlaw19.OptsFragments'. -/
def optsFragmentsCard : Claim7 := { stood := { row := optsFragmentsRow, standIns := [], harness := (true, "8a3b28cc00ac055319e32af5bbeded34ae94ab5e570333e57969828b8a42f32c"), looks := false }, kinds := [], alts := [], laidByText := true, laidKinds := [.data, .pinned], laidTests := true, laidLooks := .later }
def OptsFragmentsCardSaid : Prop := Claim7.holds Tryd.pinned (.plain (OpenSpec.ofChange optsFragmentsSpec)) optsFragmentsCard

/-- THE SECOND FORM's CARD OF 'redactorlaw19.OptsPrints'. -/
def optsPrintsUptoCard : Claim7 := { stood := { row := optsPrintsUptoRow, standIns := [], harness := (true, "8a3b28cc00ac055319e32af5bbeded34ae94ab5e570333e57969828b8a42f32c"), looks := false }, kinds := [], alts := [], laidByText := true, laidKinds := [.data, .pinned], laidTests := true, laidLooks := .later }
def OptsPrintsUptoCardSaid : Prop := Claim7.holds Tryd.pinned (.plain (OpenSpec.upto optsPrintsSpec)) optsPrintsUptoCard

/-- THE SECOND FORM's CARD OF 'redactorlaw19.OptsBack'. -/
def optsBackUptoCard : Claim7 := { stood := { row := optsBackUptoRow, standIns := [], harness := (true, "8a3b28cc00ac055319e32af5bbeded34ae94ab5e570333e57969828b8a42f32c"), looks := false }, kinds := [], alts := [], laidByText := true, laidKinds := [.data, .pinned], laidTests := true, laidLooks := .later }
def OptsBackUptoCardSaid : Prop := Claim7.holds Tryd.pinned (.plain (OpenSpec.upto optsBackSpec)) optsBackUptoCard

/-- THE SECOND FORM's CARD OF 'redactorlaw19.OptsNone'. -/
def optsNoneUptoCard : Claim7 := { stood := { row := optsNoneUptoRow, standIns := [], harness := (true, "8a3b28cc00ac055319e32af5bbeded34ae94ab5e570333e57969828b8a42f32c"), looks := false }, kinds := [], alts := [], laidByText := true, laidKinds := [.data, .pinned], laidTests := true, laidLooks := .later }
def OptsNoneUptoCardSaid : Prop := Claim7.holds Tryd.pinned (.plain (OpenSpec.upto optsNoneSpec)) optsNoneUptoCard

/-- THE SECOND FORM's CARD OF 'redactorlaw19.OptsLong'. -/
def optsLongUptoCard : Claim7 := { stood := { row := optsLongUptoRow, standIns := [], harness := (true, "8a3b28cc00ac055319e32af5bbeded34ae94ab5e570333e57969828b8a42f32c"), looks := false }, kinds := [], alts := [], laidByText := true, laidKinds := [.data, .pinned], laidTests := true, laidLooks := .later }
def OptsLongUptoCardSaid : Prop := Claim7.holds Tryd.pinned (.plain (OpenSpec.upto optsLongSpec)) optsLongUptoCard

/-- THE SECOND FORM's CARD OF 'redactorlaw19.OptsParse'. -/
def optsParseUptoCard : Claim7 := { stood := { row := optsParseUptoRow, standIns := [], harness := (true, "8a3b28cc00ac055319e32af5bbeded34ae94ab5e570333e57969828b8a42f32c"), looks := false }, kinds := [], alts := [], laidByText := true, laidKinds := [.data, .pinned], laidTests := true, laidLooks := .later }
def OptsParseUptoCardSaid : Prop := Claim7.holds Tryd.pinned (.plain (OpenSpec.upto optsParseSpec)) optsParseUptoCard

/-- THE SECOND FORM's CARD OF 'redactorlaw19.OptsApart'. -/
def optsApartUptoCard : Claim7 := { stood := { row := optsApartUptoRow, standIns := [], harness := (true, "8a3b28cc00ac055319e32af5bbeded34ae94ab5e570333e57969828b8a42f32c"), looks := false }, kinds := [], alts := [], laidByText := true, laidKinds := [.data, .pinned], laidTests := true, laidLooks := .later }
def OptsApartUptoCardSaid : Prop := Claim7.holds Tryd.pinned (.plain (OpenSpec.upto optsApartSpec)) optsApartUptoCard

/-- THE SECOND FORM's CARD OF 'redactorlaw19.OptsFragments'. -/
def optsFragmentsUptoCard : Claim7 := { stood := { row := optsFragmentsUptoRow, standIns := [], harness := (true, "8a3b28cc00ac055319e32af5bbeded34ae94ab5e570333e57969828b8a42f32c"), looks := false }, kinds := [], alts := [], laidByText := true, laidKinds := [.data, .pinned], laidTests := true, laidLooks := .later }
def OptsFragmentsUptoCardSaid : Prop := Claim7.holds Tryd.pinned (.plain (OpenSpec.upto optsFragmentsSpec)) optsFragmentsUptoCard
end Rows
end Go.Proofs.YtceflmoiiiclcaaDoor
