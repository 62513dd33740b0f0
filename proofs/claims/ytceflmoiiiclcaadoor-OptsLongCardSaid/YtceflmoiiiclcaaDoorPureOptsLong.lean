/- OptsLong, the plain law: 40 arguments may be, of one more none. No conditions beyond the argument's type. -/
import Derived.Test.YtceflmoiiiclcaaDoorPureKnown19
import Derived.Test.YtceflmoiiiclcaaDoorPL1
namespace Go.Proofs.YtceflmoiiiclcaaDoor.Pure
open Go.RowKit Go.Proofs.YtceflmoiiiclcaaDoorW.PrintWords Go.Proofs.YtceflmoiiiclcaaDoorW.PrintLast Go.Proofs.YtceflmoiiiclcaaDoor.Utf
set_option linter.unusedVariables false
set_option maxRecDepth 100000
theorem long_30 : PL.redactorlaw19_OptsLong.l0 60 [⟨#[112]⟩] 30 = some true := by kernel_rfl
theorem long_31 : PL.redactorlaw19_OptsLong.l0 60 [⟨#[112]⟩] 31 = some true := by kernel_rfl
theorem long_32 : PL.redactorlaw19_OptsLong.l0 60 [⟨#[112]⟩] 32 = some true := by kernel_rfl
theorem long_33 : PL.redactorlaw19_OptsLong.l0 60 [⟨#[112]⟩] 33 = some true := by kernel_rfl
theorem long_34 : PL.redactorlaw19_OptsLong.l0 60 [⟨#[112]⟩] 34 = some true := by kernel_rfl
theorem long_35 : PL.redactorlaw19_OptsLong.l0 60 [⟨#[112]⟩] 35 = some true := by kernel_rfl
theorem long_36 : PL.redactorlaw19_OptsLong.l0 60 [⟨#[112]⟩] 36 = some true := by kernel_rfl
theorem long_37 : PL.redactorlaw19_OptsLong.l0 60 [⟨#[112]⟩] 37 = some true := by kernel_rfl
theorem long_38 : PL.redactorlaw19_OptsLong.l0 60 [⟨#[112]⟩] 38 = some true := by kernel_rfl
theorem long_39 : PL.redactorlaw19_OptsLong.l0 60 [⟨#[112]⟩] 39 = some true := by kernel_rfl
theorem long_40 : PL.redactorlaw19_OptsLong.l0 60 [⟨#[112]⟩] 40 = some true := by kernel_rfl
theorem long_41 : PL.redactorlaw19_OptsLong.l0 60 [⟨#[112]⟩] 41 = some true := by kernel_rfl
theorem long_42 : PL.redactorlaw19_OptsLong.l0 60 [⟨#[112]⟩] 42 = some true := by kernel_rfl
theorem long_43 : PL.redactorlaw19_OptsLong.l0 60 [⟨#[112]⟩] 43 = some true := by kernel_rfl
theorem long_44 : PL.redactorlaw19_OptsLong.l0 60 [⟨#[112]⟩] 44 = some true := by kernel_rfl
theorem long_45 : PL.redactorlaw19_OptsLong.l0 60 [⟨#[112]⟩] 45 = some true := by kernel_rfl
theorem long_46 : PL.redactorlaw19_OptsLong.l0 60 [⟨#[112]⟩] 46 = some true := by kernel_rfl
theorem long_47 : PL.redactorlaw19_OptsLong.l0 60 [⟨#[112]⟩] 47 = some true := by kernel_rfl
theorem long_48 : PL.redactorlaw19_OptsLong.l0 60 [⟨#[112]⟩] 48 = some true := by kernel_rfl
theorem long_49 : PL.redactorlaw19_OptsLong.l0 60 [⟨#[112]⟩] 49 = some true := by kernel_rfl
theorem OptsLong : PL.redactorlaw19_OptsLong.Pure := by
  intro a ha
  have h := wf_u8 ha
  refine ⟨60, ?_⟩
  unfold PL.redactorlaw19_OptsLong.f
  have e1 : Int.tmod a 20 = a % 20 := Int.tmod_eq_emod_of_nonneg h.1
  obtain ⟨m, hm⟩ : ∃ m, m = wrap64 (30 + wrap64 (Int.tmod a 20)) := ⟨_, rfl⟩
  have hm2 : 30 ≤ m ∧ m ≤ 49 := by rw [hm, e1]; unfold wrap64; omega
  rw [← hm]
  have hc : m = 30 ∨ m = 31 ∨ m = 32 ∨ m = 33 ∨ m = 34 ∨ m = 35 ∨ m = 36 ∨ m = 37 ∨ m = 38 ∨ m = 39 ∨ m = 40 ∨ m = 41 ∨ m = 42 ∨ m = 43 ∨ m = 44 ∨ m = 45 ∨ m = 46 ∨ m = 47 ∨ m = 48 ∨ m = 49 := by omega
  rcases hc with rfl | rfl | rfl | rfl | rfl | rfl | rfl | rfl | rfl | rfl | rfl | rfl | rfl | rfl | rfl | rfl | rfl | rfl | rfl | rfl
  · exact long_30
  · exact long_31
  · exact long_32
  · exact long_33
  · exact long_34
  · exact long_35
  · exact long_36
  · exact long_37
  · exact long_38
  · exact long_39
  · exact long_40
  · exact long_41
  · exact long_42
  · exact long_43
  · exact long_44
  · exact long_45
  · exact long_46
  · exact long_47
  · exact long_48
  · exact long_49
#print axioms OptsLong
end Go.Proofs.YtceflmoiiiclcaaDoor.Pure
