/- Utf8Back: whatever bytes there are, decoded and encoded they are as they were, and what they are decoded to is canonical: for all bytes up to the law's bound, and for all choices. No conditions. -/
import Derived.Test.YtopkhidncfcjlaaDoorPureUtfK
import Derived.Test.YtopkhidncfcjlaaDoorPX6
namespace Go.Proofs.YtopkhidncfcjlaaDoor.Pure
open Go.RowKit Go.Proofs.YtopkhidncfcjlaaDoor.PX Go.Proofs.YtopkhidncfcjlaaDoorW.PrintWords Go.Proofs.YtopkhidncfcjlaaDoorW.PrintLast Go.Proofs.YtopkhidncfcjlaaDoor.Utf

theorem Utf8Back : redactorlaw02_Utf8Back.Pure := by
  intro b c hb1 hb2 hb hc1 hc2 hc
  have hB := wf_bytes hb
  obtain ⟨m, mB, ml, hm⟩ := bytes_f c (wf_bytes hc) (by omega)
  refine ⟨2000, ?_⟩
  unfold redactorlaw02_Utf8Back.f
  by_cases h : (b.length : Int) > 300
  · rw [if_pos h]
    simp only [redactorlaw02_Utf8Back.j0]
    rw [if_pos trivial, known_f 1999 (by omega), Option.bind_some]
  · have l1 := decode_len hB
    have l2 := decode_len mB
    rw [if_neg h, known_f 2000 (by omega), Option.bind_some]
    simp only [redactorlaw02_Utf8Back.j0]
    rw [if_neg (by simp), hm 1999 (by omega), Option.bind_some, decode_f 1999 b hB (by omega) (by omega), Option.bind_some, encode_right 1999 _ (by omega) (by omega) (decode_right hB), Option.bind_some, decode_f 1999 m mB (by omega) (by omega), Option.bind_some, encode_right 1999 _ (by omega) (by omega) (decode_right mB), Option.bind_some, enc_decode hB, enc_decode mB]
    rw [if_pos rfl, if_pos rfl, if_pos rfl, if_pos rfl, Option.bind_some, canonical_decode 1999 b hB (by omega) (by omega), Option.bind_some, if_pos rfl, Option.bind_some, canonical_decode 1999 m mB (by omega) (by omega), Option.bind_some]
end Go.Proofs.YtopkhidncfcjlaaDoor.Pure
