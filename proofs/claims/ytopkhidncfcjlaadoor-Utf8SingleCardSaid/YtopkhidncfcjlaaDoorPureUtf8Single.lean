/- Utf8Single: a byte below 80 is decoded to its own scalar, any other one alone to an escape: for every byte. No conditions. -/
import Derived.Test.YtopkhidncfcjlaaDoorPureUtfK
import Derived.Test.YtopkhidncfcjlaaDoorPX2
namespace Go.Proofs.YtopkhidncfcjlaaDoor.Pure
open Go.RowKit Go.Proofs.YtopkhidncfcjlaaDoor.PX Go.Proofs.YtopkhidncfcjlaaDoorW.PrintWords Go.Proofs.YtopkhidncfcjlaaDoorW.PrintLast Go.Proofs.YtopkhidncfcjlaaDoor.Utf

theorem Utf8Single : redactorlaw02_Utf8Single.Pure := by
  intro b hb
  obtain ⟨h0, h1⟩ := wf_u8 hb
  have hB : Bytes [b] := Bytes.cons h0 h1 Bytes.nil
  have e : dec8 [b] = [if b < 128 then b else -1 - b] := by
    rw [decode_cons]
    have e1 : one [b] = (if b < 128 then b else -1 - b, 1) := by
      unfold one
      rw [decP_cons]
      by_cases h : b < 128
      · have k : Lib.decodeN (([] : List Int).length + 1) b.toNat (rd [b] 1).toNat (rd [b] 2).toNat (rd [b] 3).toNat = (b.toNat, 1) := by
          unfold Lib.decodeN
          rw [if_pos (by omega)]
        rw [k, if_pos h, if_neg (by simp; omega)]
        simp; omega
      · have k : Lib.decodeN (([] : List Int).length + 1) b.toNat (rd [b] 1).toNat (rd [b] 2).toNat (rd [b] 3).toNat = (65533, 1) := by
          unfold Lib.decodeN
          rw [if_neg (by omega), if_neg (by simp), if_neg (by simp), if_neg (by simp)]
        rw [k, if_neg h, if_pos (by simp)]
        rfl
    rw [e1]
    simp [decode_nil]
  refine ⟨30, ?_⟩
  unfold redactorlaw02_Utf8Single.f redactorref01_Escape.f
  rw [decode_f 30 [b] hB (by simp) (by simp), Option.bind_some, known_f 30 (by omega), e]
  simp only [Option.bind_some]
  rw [w32 (i := b) (by omega) (by omega), w32 (i := -1 - b) (by omega) (by omega), if_pos (by simp)]
  by_cases h : b ≥ 128
  · rw [if_pos h, if_pos trivial, if_pos (by simp), if_neg (by omega), rd0]
    simp
  · rw [if_neg h, if_pos trivial, if_pos (by simp), if_pos (by omega), rd0]
    simp
end Go.Proofs.YtopkhidncfcjlaaDoor.Pure
