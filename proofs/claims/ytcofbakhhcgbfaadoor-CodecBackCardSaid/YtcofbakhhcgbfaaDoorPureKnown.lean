/- The chapter's examples hold (redactorlaw04.known, as the laws' own print tells it). No conditions. -/
import Derived.Test.YtcofbakhhcgbfaaDoorPureCodec
import Derived.Test.YtcofbakhhcgbfaaDoorPX1
namespace Go.Proofs.YtcofbakhhcgbfaaDoor.Utf
open Go.RowKit Go.Proofs.YtcofbakhhcgbfaaDoorW.PrintWords Go.Proofs.YtcofbakhhcgbfaaDoorW.PrintLast Go.Proofs.YtcofbakhhcgbfaaDoorW.PrintMore
open EC
theorem known_f (k : Nat) (hk : 20 < k) : PX.redactorlaw04_known.f k = some true := by
  have hb : Bytes [97, 0] := by intro x hx; simp at hx; omega
  have d1 : PX.codec_Decode.f k 2 [255, 254, 97, 0] = some (2, false, true, [97], 0) := by
    have := dec_2_mark k false [97, 0] hb (by simp; omega) (by simp)
    have e : dec16 false [97, 0] = [97] := by
      have := dec16_enc16 false [97] (by intro c hc; simp at hc; omega)
      exact this
    rw [e] at this
    exact this
  have d2 : PX.codec_Encode.f k 3 false false [256] = some ([], 11) := by
    obtain ⟨k, rfl⟩ : ∃ m, k = m + 2 := ⟨k - 2, by omega⟩
    unfold PX.codec_Encode.f
    rw [if_pos (by simp), if_pos (.inr (.inr rfl)), if_neg (by simp), if_neg (by decide), if_neg (by decide), if_neg (by decide)]
    unfold PM.codec_encode1.f
    simp only [PM.codec_encode1.l0]
    rfl
  unfold PX.redactorlaw04_known.f
  rw [d1, Option.bind_some, d2, Option.bind_some, dec_0, Option.bind_some, named_f, named_f]
  rfl
#print axioms known_f
end Go.Proofs.YtcofbakhhcgbfaaDoor.Utf
