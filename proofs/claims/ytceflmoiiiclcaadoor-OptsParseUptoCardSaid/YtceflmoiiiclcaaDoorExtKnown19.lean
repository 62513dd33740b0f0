/- The chapter's examples (redactorlaw19.known), told as a function that tells only its answer true. No conditions. -/
import Derived.Test.YtceflmoiiiclcaaDoorKN1
namespace Go.Proofs.YtceflmoiiiclcaaDoor.KX
open Go.RowKit Go.Proofs.YtceflmoiiiclcaaDoorW.PrintWords Go.Proofs.YtceflmoiiiclcaaDoorW.PrintLast
def redactorlaw19_known.f (k : Nat) : Option Bool := if KN.redactorlaw19_known.f k = some true then some true else none
theorem redactorlaw19_known.mono : ∀ k, LeO (redactorlaw19_known.f k) (redactorlaw19_known.f (k + 1)) := by
  intro k r h
  unfold redactorlaw19_known.f at h ⊢
  by_cases c : KN.redactorlaw19_known.f k = some true
  · rw [if_pos c] at h
    rw [if_pos (KN.redactorlaw19_known.mono k _ c)]
    exact h
  · rw [if_neg c] at h
    cases h
theorem redactorlaw19_known.calls (k : Nat) (r : Bool) (w : World) (h : redactorlaw19_known.f k = some r) :
    Calls Tryd.prog 10 #[] w fun e w' => e = .returned (.bool r) ∧ Below w.heap.size w w' := by
  unfold redactorlaw19_known.f at h
  by_cases c : KN.redactorlaw19_known.f k = some true
  · rw [if_pos c] at h
    obtain rfl := Option.some.inj h
    exact KN.redactorlaw19_known.calls k true w ⟨rfl⟩ c
  · rw [if_neg c] at h
    cases h
theorem redactorlaw19_known.told (k : Nat) (h : KN.redactorlaw19_known.f k = some true) : redactorlaw19_known.f k = some true := by
  unfold redactorlaw19_known.f
  rw [if_pos h]
end Go.Proofs.YtceflmoiiiclcaaDoor.KX
