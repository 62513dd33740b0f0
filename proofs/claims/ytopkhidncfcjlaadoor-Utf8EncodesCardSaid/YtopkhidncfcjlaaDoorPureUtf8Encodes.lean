/- Utf8Encodes: Encode and Canonical of any cells are what the chapter says: for all cells up to the law's bound, and for all choices. No conditions. -/
import Derived.Test.YtopkhidncfcjlaaDoorPureUtfRefE
import Derived.Test.YtopkhidncfcjlaaDoorPX5
import Derived.Test.YtopkhidncfcjlaaDoorPX6
namespace Go.Proofs.YtopkhidncfcjlaaDoor.Pure
open Go.RowKit Go.Proofs.YtopkhidncfcjlaaDoor.PX Go.Proofs.YtopkhidncfcjlaaDoorW.PrintWords Go.Proofs.YtopkhidncfcjlaaDoorW.PrintLast Go.Proofs.YtopkhidncfcjlaaDoor.Utf

theorem tells_f (k : Nat) (l : List Int) (hk : 2000 ≤ k) (hl : l.length ≤ 200) : redactorlaw02_tells.f k l = some true := by
  unfold redactorlaw02_tells.f
  rw [encode_f k l (by omega) (by omega), Option.bind_some, ref_encode_f k l (by omega) (by omega), Option.bind_some, if_pos rfl, canonical_f k l (by omega) (by omega), Option.bind_some, ref_canonical_f k l (by omega) (by omega), Option.bind_some]
  by_cases h : ∀ c ∈ l, Right c
  · rw [if_pos h, w64 (i := 0) (by omega) (by omega), if_pos rfl]
    simp
  · rw [if_neg h, w64 (i := 10) (by omega) (by omega), if_pos rfl]
    simp
theorem Utf8Encodes : redactorlaw02_Utf8Encodes.Pure := by
  intro l c hl1 hl2 hl hc1 hc2 hc
  obtain ⟨m, ml, hm⟩ := cells_f c (wf_bytes hc) (by omega)
  refine ⟨3000, ?_⟩
  unfold redactorlaw02_Utf8Encodes.f
  by_cases h : (l.length : Int) > 200
  · rw [if_pos h]
    simp only [redactorlaw02_Utf8Encodes.j0]
    rw [if_pos trivial, known_f 2999 (by omega), Option.bind_some]
  · rw [if_neg h, known_f 3000 (by omega), Option.bind_some]
    simp only [redactorlaw02_Utf8Encodes.j0]
    rw [if_neg (by simp), tells_f 2999 l (by omega) (by omega), Option.bind_some, if_pos rfl, hm 2999 (by omega), Option.bind_some, tells_f 2999 m (by omega) (by omega), Option.bind_some]
end Go.Proofs.YtopkhidncfcjlaaDoor.Pure
