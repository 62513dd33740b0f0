/- Same of the document's answer asks whether two lists are one. Conditions: lists are shorter than Go's bound. -/
import Derived.Test.YtcofbakhhcgbfaaDoorPureCodec
import Derived.Test.YtcofbakhhcgbfaaDoorPX2
namespace Go.Proofs.YtcofbakhhcgbfaaDoor.Utf
open Go.RowKit Go.Proofs.YtcofbakhhcgbfaaDoorW.PrintWords Go.Proofs.YtcofbakhhcgbfaaDoorW.PrintLast Go.Proofs.YtcofbakhhcgbfaaDoorW.PrintMore
set_option linter.unusedVariables false

theorem drops_eq {a b : List Int} (n : Nat) (ha : n < a.length) (hb : n < b.length) : a.drop n = b.drop n ↔ rd a n = rd b n ∧ a.drop (n + 1) = b.drop (n + 1) := by
  rw [drop_rd a n ha, drop_rd b n hb, List.cons.injEq]
/-! ### Same -/
theorem compare_l0 (a b : List Int) (ha : a.length < 140737488355328) : ∀ (d k i : Nat), i + d = a.length → i ≤ b.length → 2 * d + 1 < k →
    ∃ r, PX.redactorref01_Compare.l0 k a b (i : Int) = some r ∧ (r = 0 ↔ a.drop i = b.drop i) := by
  intro d
  induction d with
  | zero =>
    intro k i hi hb hk
    obtain ⟨k, rfl⟩ : ∃ m, k = m + 2 := ⟨k - 2, by omega⟩
    have e : PX.redactorref01_Compare.l0 (k + 2) a b (i : Int) = if (a.length : Int) < (b.length : Int) then some (-1) else if (a.length : Int) > (b.length : Int) then some 1 else some 0 := by
      simp only [PX.redactorref01_Compare.l0]
      rw [if_neg (by omega)]
      simp only [PX.redactorref01_Compare.j1]
      rw [if_neg (by simp)]
    rw [e, List.drop_eq_nil_of_le (show a.length ≤ i by omega)]
    by_cases h : (a.length : Int) < (b.length : Int)
    · rw [if_pos h]
      refine ⟨_, rfl, by omega, fun x => ?_⟩
      have := congrArg List.length x
      rw [List.length_drop] at this
      simp at this
      omega
    · rw [if_neg h, if_neg (by omega)]
      exact ⟨_, rfl, fun _ => (List.drop_eq_nil_of_le (by omega)).symm, fun _ => rfl⟩
  | succ d ih =>
    intro k i hi hb hk
    obtain ⟨k, rfl⟩ : ∃ m, k = m + 2 := ⟨k - 2, by omega⟩
    by_cases hlt : i < b.length
    · have ew : wrap64 ((i : Int) + 1) = ((i + 1 : Nat) : Int) := by rw [w64 (by omega) (by omega)]; omega
      have e : PX.redactorref01_Compare.l0 (k + 2) a b (i : Int) = if rd a (i : Int) < rd b (i : Int) then some (-1) else if rd a (i : Int) > rd b (i : Int) then some 1 else PX.redactorref01_Compare.l0 k a b ((i + 1 : Nat) : Int) := by
        simp only [PX.redactorref01_Compare.l0]
        rw [if_pos (by omega), decide_eq_true (by omega)]
        simp only [PX.redactorref01_Compare.j1]
        rw [if_pos trivial, if_pos (by omega), if_pos (by omega), if_pos (by omega), ew]
      have hd := drops_eq (a := a) (b := b) i (by omega) hlt
      rw [e]
      by_cases h1 : rd a (i : Int) < rd b (i : Int)
      · rw [if_pos h1]
        exact ⟨_, rfl, by omega, fun x => by have := (hd.1 x).1; omega⟩
      · rw [if_neg h1]
        by_cases h2 : rd a (i : Int) > rd b (i : Int)
        · rw [if_pos h2]
          exact ⟨_, rfl, by omega, fun x => by have := (hd.1 x).1; omega⟩
        · rw [if_neg h2]
          obtain ⟨r, hr, hq⟩ := ih k (i + 1) (by omega) (by omega) (by omega)
          exact ⟨r, hr, hq.trans ⟨fun x => hd.2 ⟨by omega, x⟩, fun x => (hd.1 x).2⟩⟩
    · have e : PX.redactorref01_Compare.l0 (k + 2) a b (i : Int) = if (a.length : Int) < (b.length : Int) then some (-1) else if (a.length : Int) > (b.length : Int) then some 1 else some 0 := by
        simp only [PX.redactorref01_Compare.l0]
        rw [if_pos (by omega), decide_eq_false (by omega)]
        simp only [PX.redactorref01_Compare.j1]
        rw [if_neg (by simp)]
      rw [e, if_neg (by omega), if_pos (by omega)]
      refine ⟨_, rfl, by omega, fun x => ?_⟩
      have := congrArg List.length x
      rw [List.length_drop, List.length_drop] at this
      omega
theorem same_f (k : Nat) (a b : List Int) (hk : 2 * a.length + 1 < k) (ha : a.length < 140737488355328) : PX.redactorref01_Same.f k a b = some (decide (a = b)) := by
  obtain ⟨r, hr, hq⟩ := compare_l0 a b ha a.length k 0 (by omega) (by omega) hk
  unfold PX.redactorref01_Same.f PX.redactorref01_Compare.f
  rw [show ((0 : Nat) : Int) = 0 from rfl] at hr
  rw [hr, Option.bind_some]
  congr 1
  rw [List.drop_zero, List.drop_zero] at hq
  by_cases h : a = b
  · rw [decide_eq_true h, hq.2 h]; rfl
  · rw [decide_eq_false h]
    exact beq_eq_false_iff_ne.2 (fun e => h (hq.1 e))
#print axioms same_f
end Go.Proofs.YtcofbakhhcgbfaaDoor.Utf
