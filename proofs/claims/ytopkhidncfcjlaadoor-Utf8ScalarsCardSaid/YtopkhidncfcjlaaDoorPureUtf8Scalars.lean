/- Utf8Scalars: scalars alone, whatever they are, are told back, and each has one to four bytes: for all numbers. No conditions. -/
import Derived.Test.YtopkhidncfcjlaaDoorPureUtfRef
import Derived.Test.YtopkhidncfcjlaaDoorPX7
namespace Go.Proofs.YtopkhidncfcjlaaDoor.Pure
open Go.RowKit Go.Proofs.YtopkhidncfcjlaaDoor.PX Go.Proofs.YtopkhidncfcjlaaDoorW.PrintWords Go.Proofs.YtopkhidncfcjlaaDoorW.PrintLast Go.Proofs.YtopkhidncfcjlaaDoor.Utf

theorem scalars_end (k : Nat) (n l : List Int) (i : Int) (hl : l.length ≤ 60) (h : ∀ c ∈ l, 0 ≤ c ∧ Right c) (hk : 1000 ≤ k) : redactorlaw02_Utf8Scalars.j1 (k + 1) n l i false = some true := by
  have hr : ∀ c ∈ l, Right c := fun c hc => (h c hc).2
  have hb := enc_bytes l hr
  have he := enc_len l
  have hd := decode_enc l h
  simp only [redactorlaw02_Utf8Scalars.j1]
  rw [if_neg (by simp), encode_right k l (by omega) (by omega) hr, Option.bind_some, known_f k (by omega), Option.bind_some, if_pos rfl, if_pos rfl, decode_f k _ hb (by omega) (by omega), Option.bind_some, hd, same_f k _ _ (by omega) (by omega), Option.bind_some]
  rw [if_pos (by simp), if_pos (by show ((enc l).length : Int) ≥ _; omega), w64 (i := 4 * (l.length : Int)) (by omega) (by omega), if_pos (by show ((enc l).length : Int) ≤ _; omega), canonical_f k l (by omega) (by omega), Option.bind_some, decide_eq_true ⟨hr, hd⟩]
theorem scalars_l0 (n : List Int) (hn : ∀ x ∈ n, (Lit.int .u32 x).wf = true) (hs : n.length < 140737488355328) : ∀ (d i k : Nat) (l : List Int), i + d = min n.length 60 → l.length ≤ i → (∀ c ∈ l, 0 ≤ c ∧ Right c) → 2 * d + 1010 ≤ k →
    redactorlaw02_Utf8Scalars.l0 k n l (i : Int) = some true := by
  intro d
  induction d with
  | zero =>
    intro i k l hi hl h hk
    obtain ⟨k, rfl⟩ : ∃ m, k = m + 2 := ⟨k - 2, by omega⟩
    simp only [redactorlaw02_Utf8Scalars.l0]
    by_cases hlt : (i : Int) < (n.length : Int)
    · rw [if_pos hlt, decide_eq_false (by omega)]
      exact scalars_end k n l _ (by omega) h (by omega)
    · rw [if_neg hlt]
      exact scalars_end k n l _ (by omega) h (by omega)
  | succ d ih =>
    intro i k l hi hl h hk
    obtain ⟨k, rfl⟩ : ∃ m, k = m + 2 := ⟨k - 2, by omega⟩
    have ew : wrap64 ((i : Int) + 1) = ((i + 1 : Nat) : Int) := by rw [w64 (by omega) (by omega)]; omega
    have hx : 0 ≤ rd n i ∧ rd n i < 4294967296 := by
      have := drop_rd n i (by omega)
      exact wf_u32 (hn _ (List.mem_of_mem_drop (this ▸ List.mem_cons_self)))
    have em : wrap32 (Int.tmod (rd n i) 1114112) = rd n i % 1114112 := by
      rw [Int.tmod_eq_emod_of_nonneg hx.1, w32 (by omega) (by omega)]
    simp only [redactorlaw02_Utf8Scalars.l0]
    rw [if_pos (by omega), decide_eq_true (by omega)]
    simp only [redactorlaw02_Utf8Scalars.j1]
    rw [if_pos trivial, if_pos (by omega), if_pos (by omega), em, ref_right_f, Option.bind_some, ew]
    by_cases hr : Right (rd n i % 1114112)
    · rw [decide_eq_true hr, if_pos rfl, if_pos (by omega)]
      refine ih (i + 1) k _ (by omega) (by rw [List.length_append]; simp; omega) ?_ (by omega)
      intro c hc
      rcases List.mem_append.1 hc with hc | hc
      · exact h c hc
      · rw [List.mem_singleton.1 hc]; exact ⟨by omega, hr⟩
    · rw [decide_eq_false hr, if_neg (by simp)]
      exact ih (i + 1) k l (by omega) (by omega) h (by omega)
theorem Utf8Scalars : redactorlaw02_Utf8Scalars.Pure := by
  intro n hm hs hn
  refine ⟨1200, ?_⟩
  unfold redactorlaw02_Utf8Scalars.f
  exact scalars_l0 n hn (by omega) (min n.length 60) 0 1200 [] (by omega) (by simp) (fun c hc => by cases hc) (by omega)
end Go.Proofs.YtopkhidncfcjlaaDoor.Pure
