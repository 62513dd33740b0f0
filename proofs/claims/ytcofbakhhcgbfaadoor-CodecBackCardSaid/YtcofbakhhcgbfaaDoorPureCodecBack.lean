/- CodecBack: whatever bytes there are, decoded and encoded they are as they were, of each encoding. No conditions. -/
import Derived.Test.YtcofbakhhcgbfaaDoorPureKnown
import Derived.Test.YtcofbakhhcgbfaaDoorPureBytes
import Derived.Test.YtcofbakhhcgbfaaDoorPX5
namespace Go.Proofs.YtcofbakhhcgbfaaDoor.Pure
open Go.RowKit Go.Proofs.YtcofbakhhcgbfaaDoor.PX Go.Proofs.YtcofbakhhcgbfaaDoorW.PrintWords Go.Proofs.YtcofbakhhcgbfaaDoorW.PrintLast Go.Proofs.YtcofbakhhcgbfaaDoor.Utf

theorem back_j0 (k : Nat) (l c : List Int) (a e : Int) (hB : Bytes l) (hC : Bytes c) (he : 0 ≤ e) (hk : 2000 < k) (hl : l.length ≤ 300) (hc : c.length < 140737488355328) : redactorlaw04_CodecBack.j0 (k + 1) l c a e false = some true := by
  obtain ⟨m, hm, hm2, hm3⟩ := bytes4_f c a hC hc
  have en : (1 + Int.tmod e 3) % 256 = 1 ∨ (1 + Int.tmod e 3) % 256 = 2 ∨ (1 + Int.tmod e 3) % 256 = 3 := by
    rw [Int.tmod_eq_emod_of_nonneg he]; omega
  obtain ⟨n, hn⟩ : ∃ n, n = (1 + Int.tmod e 3) % 256 := ⟨_, rfl⟩
  rw [← hn] at en
  obtain ⟨p1, p2, p3, hp⟩ := back n en l hB (by omega)
  obtain ⟨q1, q2, q3, hq⟩ := back n en m hm (by omega)
  obtain ⟨hp1, hp2⟩ := hp k (by omega)
  obtain ⟨hq1, hq2⟩ := hq k (by omega)
  simp only [redactorlaw04_CodecBack.j0]
  rw [if_neg (show ¬ (false = true) by decide), ← hn, hp1, Option.bind_some]
  simp only []
  rw [hp2, Option.bind_some, hm3 k (by omega), Option.bind_some, hq1, Option.bind_some]
  simp only []
  rw [hq2, Option.bind_some]
  simp only []
  rw [if_pos trivial, if_pos trivial, if_pos trivial, if_pos trivial, if_pos trivial, Option.bind_some, beq_self_eq_true]
theorem CodecBack : redactorlaw04_CodecBack.Pure := by
  intro l c a e hl1 hl2 hl hc1 hc2 hc ha he
  have hB := wf_bytes hl
  have hC := wf_bytes hc
  refine ⟨3000, ?_⟩
  unfold redactorlaw04_CodecBack.f
  by_cases h : (l.length : Int) > 300
  · rw [if_pos h]
    simp only [redactorlaw04_CodecBack.j0]
    rw [if_pos trivial, known_f 2999 (by omega), Option.bind_some]
  · rw [if_neg h, known_f 3000 (by omega), Option.bind_some]
    exact back_j0 2999 l c a e hB hC (wf_u8 he).1 (by omega) (by omega) (by omega)
#print axioms CodecBack
end Go.Proofs.YtcofbakhhcgbfaaDoor.Pure
