/- CodecLatin: each byte is a scalar, and what is greater has no byte: for all bytes up to the law's bound, and every cell. No conditions. -/
import Derived.Test.YtcofbakhhcgbfaaDoorPureCodec
import Derived.Test.YtcofbakhhcgbfaaDoorPX2
namespace Go.Proofs.YtcofbakhhcgbfaaDoor.Pure
open Go.RowKit Go.Proofs.YtcofbakhhcgbfaaDoor.PX Go.Proofs.YtcofbakhhcgbfaaDoorW.PrintWords Go.Proofs.YtcofbakhhcgbfaaDoorW.PrintLast Go.Proofs.YtcofbakhhcgbfaaDoor.Utf
open EC

theorem ref_right_f (c : Int) : redactorref01_Right.f c = some (decide (Right c)) := by
  unfold redactorref01_Right.f
  by_cases h1 : c ≥ -256
  · rw [if_pos h1]
    by_cases h3 : c < 55296
    · rw [if_pos h3, decide_eq_true (show Right c by unfold Right; omega)]
    · rw [if_neg h3]
      by_cases h4 : c > 57343
      · rw [if_pos h4]
        congr 1
        rw [decide_eq_decide]
        unfold Right
        omega
      · rw [if_neg h4, decide_eq_false (show ¬ Right c by unfold Right; omega)]
  · rw [if_neg h1]
    by_cases h4 : c > 57343
    · omega
    · rw [if_neg h4, decide_eq_false (show ¬ Right c by unfold Right; omega)]
/-- One cell's byte. -/
theorem one_f (k : Nat) (c : Int) (hk : 2 ≤ k) (hr : Right c) : codec_Encode.f k 3 false false [c] = some (if c ≤ 255 then ([if c < 0 then -1 - c else c], 0) else ([], 11)) := by
  obtain ⟨k, rfl⟩ : ∃ m, k = m + 2 := ⟨k - 2, by omega⟩
  obtain ⟨h0, h1, h2⟩ := id hr
  have hall : ¬ ([c].all good = false) := by
    rw [all_good (l := [c]) (fun d hd => (List.mem_singleton.1 hd) ▸ hr)]
    decide
  unfold codec_Encode.f
  rw [if_pos (by simp), if_pos (.inr (.inr rfl)), if_neg (by simp), if_neg hall, if_neg (by decide), if_neg (by decide)]
  unfold PM.codec_encode1.f
  have last : ∀ b : Int, PM.codec_encode1.l0 (k + 1) [b] [c] (([c] : List Int).length : Int) (wrap64 (0 + 1)) = some ([b], 0) := fun b => by
    have e1 : wrap64 (0 + 1) = 1 := w64 (by decide) (by decide)
    rw [PM.codec_encode1.l0, e1]
    show (if (1 : Int) < 1 then _ else _) = _
    rw [if_neg (show ¬ (1 : Int) < 1 by decide)]
  rw [PM.codec_encode1.l0]
  have e0 : rd [c] 0 = c := rfl
  rw [if_pos (by simp), if_pos (by decide), if_pos (by simp), e0, byte_f c h0, Option.bind_some]
  by_cases hn : c < 0
  · rw [if_pos hn, if_pos (show c ≤ 255 by omega), if_pos hn]
    show (if true = true then _ else _) = _
    rw [if_pos rfl, if_pos (by simp)]
    exact last _
  · rw [if_neg hn, if_neg hn]
    show (if false = true then _ else _) = _
    rw [if_neg (show ¬ (false = true) by decide)]
    by_cases hc : c > 255
    · rw [if_pos hc, if_neg (by omega)]
    · have e : c % 256 = c := by omega
      rw [if_neg hc, if_pos (by simp), e, if_pos (show c ≤ 255 by omega)]
      exact last _
theorem bad_f (k : Nat) (c : Int) (hr : ¬ Right c) : codec_Encode.f k 3 false false [c] = some ([], 10) := by
  have hall : [c].all good = false := by simp [good_right, hr]
  unfold codec_Encode.f
  rw [if_pos (by simp), if_pos (.inr (.inr rfl)), if_neg (by simp), if_pos hall]
theorem latin_loop : ∀ (d k : Nat) (l : List Int) (c : Int) (i : Nat), Bytes l → i + d = l.length → l.length ≤ 200 → d + 10 < k → redactorlaw04_CodecLatin.l0 k l c (i : Int) 3 false false l = some true := by
  intro d
  induction d with
  | zero =>
    intro k l c i hB hi hl hk
    obtain ⟨k, rfl⟩ : ∃ m, k = m + 1 := ⟨k - 1, by omega⟩
    simp only [redactorlaw04_CodecLatin.l0]
    rw [if_neg (by omega), with_f _ _ _ _ _ (by simp), Option.bind_some, ref_right_f]
    by_cases hr : Right c
    · rw [one_f k c (by omega) hr, Option.bind_some, decide_eq_true hr, Option.bind_some, if_pos rfl]
      by_cases hc : c ≤ 255
      · rw [if_pos hc, decide_eq_true hc]
        rfl
      · rw [if_neg hc, decide_eq_false hc]
        rfl
    · rw [bad_f k c hr, Option.bind_some, decide_eq_false hr, Option.bind_some]
      rfl
  | succ d ih =>
    intro k l c i hB hi hl hk
    obtain ⟨k, rfl⟩ : ∃ m, k = m + 1 := ⟨k - 1, by omega⟩
    have hlt : i < l.length := by omega
    have hx : 0 ≤ rd l i ∧ rd l i < 256 := by
      have := hB.drop i
      rw [drop_rd l i hlt] at this
      exact this.head
    have ew : wrap64 ((i : Int) + 1) = ((i + 1 : Nat) : Int) := by rw [w64 (by omega) (by omega)]; omega
    simp only [redactorlaw04_CodecLatin.l0]
    rw [if_pos (by omega), if_pos (by omega), if_pos (by omega), w32 (i := rd l i) (by omega) (by omega), if_pos rfl, ew]
    exact ih k l c (i + 1) hB (by omega) hl (by omega)
theorem CodecLatin : redactorlaw04_CodecLatin.Pure := by
  intro b c hb1 hb2 hb hc
  have hB := wf_bytes hb
  refine ⟨2000, ?_⟩
  unfold redactorlaw04_CodecLatin.f
  by_cases h : (b.length : Int) > 200
  · rw [if_pos h]
    simp only [redactorlaw04_CodecLatin.j0]
    rw [if_pos trivial, known_f 1999 (by omega), Option.bind_some]
  · rw [if_neg h, known_f 2000 (by omega), Option.bind_some]
    simp only [redactorlaw04_CodecLatin.j0]
    rw [if_neg (by simp), dec_3 1999 b hB (by omega), Option.bind_some]
    simp only [if_true, bne_self_eq_false, redactorlaw04_CodecLatin.j1]
    rw [if_neg (by simp)]
    exact latin_loop b.length 1998 b c 0 hB (by omega) (by omega) (by omega)
#print axioms CodecLatin
end Go.Proofs.YtcofbakhhcgbfaaDoor.Pure
