/- CodecBom: a mark at the beginning is told, and is there again: for all bytes up to the law's bound, in both orders. No conditions. -/
import Derived.Test.YtcofbakhhcgbfaaDoorPureCodec
import Derived.Test.YtcofbakhhcgbfaaDoorPX4
namespace Go.Proofs.YtcofbakhhcgbfaaDoor.Pure
open Go.RowKit Go.Proofs.YtcofbakhhcgbfaaDoor.PX Go.Proofs.YtcofbakhhcgbfaaDoorW.PrintWords Go.Proofs.YtcofbakhhcgbfaaDoorW.PrintLast Go.Proofs.YtcofbakhhcgbfaaDoor.Utf

theorem bom_j1 (k : Nat) (b : List Int) (big : Bool) (hB : Bytes b) (hk : 1000 < k) (hl : b.length ≤ 200) : redactorlaw04_CodecBom.j1 (k + 1) b big (bom big) = some true := by
  have e0 : (bom big).length = 2 := by unfold bom; cases big <;> rfl
  have e1 : (bom big ++ b).take 2 = bom big := by unfold bom; cases big <;> rfl
  have l2 := dec16_len big hB
  simp only [redactorlaw04_CodecBom.j1]
  rw [if_pos (by rw [e0]; omega), Option.bind_some, dec_2_mark k big b hB (by omega) (by omega), Option.bind_some, enc_2 k big true _ (dec16_right big hB) (by omega) (by omega), Option.bind_some, with_f _ _ _ _ _ (by simp), Option.bind_some, enc_2 k big true _ (fun c hc => by cases hc) (by simp; omega) (by simp), Option.bind_some, enc16_dec16 big hB, enc16_nil]
  simp only [if_true, List.append_nil]
  rw [if_pos (beq_self_eq_true big), if_pos (by rw [List.length_append, e0]; omega), e1, beq_self_eq_true]
theorem CodecBom : redactorlaw04_CodecBom.Pure := by
  intro b big hb1 hb2 hb
  have hB := wf_bytes hb
  refine ⟨2000, ?_⟩
  unfold redactorlaw04_CodecBom.f
  by_cases h : (b.length : Int) > 200
  · rw [if_pos h]
    simp only [redactorlaw04_CodecBom.j0]
    rw [if_pos trivial, known_f 1999 (by omega), Option.bind_some]
  · rw [if_neg h, known_f 2000 (by omega), Option.bind_some]
    simp only [redactorlaw04_CodecBom.j0]
    rw [if_neg (by simp)]
    have e := bom_j1 1998 b big hB (by omega) (by omega)
    unfold bom at e
    cases big
    · rw [if_neg (show ¬ (false = true) by decide)] at e ⊢
      exact e
    · rw [if_pos rfl] at e ⊢
      exact e
#print axioms CodecBom
end Go.Proofs.YtcofbakhhcgbfaaDoor.Pure
