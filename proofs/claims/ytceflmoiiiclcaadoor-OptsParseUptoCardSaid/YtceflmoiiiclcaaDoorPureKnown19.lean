/- The chapter's examples hold (redactorlaw19.known). No conditions. -/
import Derived.Test.YtceflmoiiiclcaaDoorExtKnown19
import Derived.Test.YtceflmoiiiclcaaDoorExtParse
namespace Go.Proofs.YtceflmoiiiclcaaDoor.Utf
open Go.RowKit Go.Proofs.YtceflmoiiiclcaaDoorW.PrintWords Go.Proofs.YtceflmoiiiclcaaDoorW.PrintLast Go.Proofs.YtceflmoiiiclcaaDoorW.PrintMore
open EC
set_option linter.unusedVariables false
theorem parse_f (k : Nat) (xs : List ByteArray) (l : List PX.S54) (h1 : ∀ z ∈ xs, z.size < 4611686018427387904) (h2 : l.length < 35184372088832) : PX.opts_Parse.f k xs l = parseF l xs := by
  unfold PX.opts_Parse.f
  rw [if_pos ⟨h1, h2⟩]
theorem sizes (xs : List ByteArray) (h : xs.all (fun z => decide (z.size < 4611686018427387904)) = true) : ∀ z ∈ xs, z.size < 4611686018427387904 := fun z hz => of_decide_eq_true (List.all_eq_true.1 h z hz)
def e1 : List ByteArray := [⟨#[45, 110, 101]⟩, ⟨#[112]⟩, ⟨#[97]⟩]
theorem p1 : parseF [] [⟨#[45, 110, 101]⟩, ⟨#[112]⟩, ⟨#[97]⟩] = some (true, false, false, false, ⟨#[112]⟩, 1, ⟨#[]⟩, [⟨#[97]⟩], 0, 0) := by kernel_rfl
theorem p2 : parseF [] [⟨#[112]⟩, ⟨#[97]⟩] = some (false, false, false, false, ⟨#[112]⟩, 1, ⟨#[]⟩, [⟨#[97]⟩], 0, 0) := by kernel_rfl
theorem p3 : parseF [] [⟨#[45, 110]⟩] = some (noJob 1 1) := by kernel_rfl
theorem p4 : parseF [] [⟨#[45, 110]⟩, ⟨#[45, 122]⟩] = some (noJob 70 1) := by kernel_rfl
theorem known_k (k : Nat) : KN.redactorlaw19_known.f k = some true := by
  unfold KN.redactorlaw19_known.f
  rw [parse_f _ _ _ (sizes _ (by kernel_rfl)) (by decide), p1, Option.bind_some, parse_f _ _ _ (sizes _ (by kernel_rfl)) (by decide), p2, Option.bind_some, parse_f _ _ _ (sizes _ (by kernel_rfl)) (by decide), p3, Option.bind_some, parse_f _ _ _ (sizes _ (by kernel_rfl)) (by decide), p4, Option.bind_some]
  kernel_rfl
theorem known_x (k : Nat) : KX.redactorlaw19_known.f k = some true := KX.redactorlaw19_known.told k (known_k k)
theorem wf_u8 {x : Int} (h : (Lit.int .u8 x).wf = true) : 0 ≤ x ∧ x < 256 := by
  simp [Lit.wf, IntKind.min, IntKind.max, IntKind.signed, IntKind.bits] at h; omega
#print axioms known_x
end Go.Proofs.YtceflmoiiiclcaaDoor.Utf
