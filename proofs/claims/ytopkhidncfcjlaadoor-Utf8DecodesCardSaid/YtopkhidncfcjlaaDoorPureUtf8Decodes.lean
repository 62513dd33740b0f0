/- Utf8Decodes: Decode of any bytes is what the chapter says: for all bytes up to the law's bound, and for all choices. No conditions. -/
import Derived.Test.YtopkhidncfcjlaaDoorPureUtfRef
import Derived.Test.YtopkhidncfcjlaaDoorPX5
namespace Go.Proofs.YtopkhidncfcjlaaDoor.Pure
open Go.RowKit Go.Proofs.YtopkhidncfcjlaaDoor.PX Go.Proofs.YtopkhidncfcjlaaDoorW.PrintWords Go.Proofs.YtopkhidncfcjlaaDoorW.PrintLast Go.Proofs.YtopkhidncfcjlaaDoor.Utf

theorem Utf8Decodes : redactorlaw02_Utf8Decodes.Pure := by
  intro b c hb1 hb2 hb hc1 hc2 hc
  have hB := wf_bytes hb
  obtain ⟨m, mB, ml, hm⟩ := bytes_f c (wf_bytes hc) (by omega)
  refine ⟨1000, ?_⟩
  unfold redactorlaw02_Utf8Decodes.f
  by_cases h : (b.length : Int) > 300
  · rw [if_pos h]
    simp only [redactorlaw02_Utf8Decodes.j0]
    rw [if_pos trivial, known_f 999 (by omega), Option.bind_some]
  · have l1 := decode_len hB
    have l2 := decode_len mB
    rw [if_neg h, known_f 1000 (by omega), Option.bind_some]
    simp only [redactorlaw02_Utf8Decodes.j0]
    rw [if_neg (by simp), decode_f 999 b hB (by omega) (by omega), Option.bind_some, ref_decode_f 999 b hB (by omega) (by omega), Option.bind_some, same_f 999 _ _ (by omega) (by omega), Option.bind_some]
    rw [if_pos (by simp), hm 999 (by omega), Option.bind_some, decode_f 999 m mB (by omega) (by omega), Option.bind_some, Option.bind_some, ref_decode_f 999 m mB (by omega) (by omega), Option.bind_some, same_f 999 _ _ (by omega) (by omega), Option.bind_some]
    simp
end Go.Proofs.YtopkhidncfcjlaaDoor.Pure
