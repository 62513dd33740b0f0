/- CodecAlike: scalars up to ff, encoded in each way, are decoded to the same: for all bytes up to the law's bound, and both choices. No conditions. -/
import Derived.Test.YtcofbakhhcgbfaaDoorPureSame
import Derived.Test.YtcofbakhhcgbfaaDoorPX3
namespace Go.Proofs.YtcofbakhhcgbfaaDoor.Pure
open Go.RowKit Go.Proofs.YtcofbakhhcgbfaaDoor.PX Go.Proofs.YtcofbakhhcgbfaaDoorW.PrintWords Go.Proofs.YtcofbakhhcgbfaaDoorW.PrintLast Go.Proofs.YtcofbakhhcgbfaaDoor.Utf
open EC

theorem alike_true (k : Nat) (a b x9 : List Int) (p0 : Int) (p1 p2 : Bool) (p3 : List Int) (q0 : Int) (q1 q2 : Bool) (q3 : List Int) (r0 : Int) (r1 r2 : Bool) (r3 : List Int) :
    redactorlaw04_CodecAlike.j3 (k + 1) a b x9 0 0 0 true p0 p1 p2 p3 q0 q1 q2 q3 r0 r1 r2 r3 = some true := by
  simp only [redactorlaw04_CodecAlike.j3]
  rfl
theorem alike_any (k : Nat) (b : List Int) (f : Bool) (hk : 2 * b.length + 1 < k) (hl : b.length < 1000) (p0 : Int) (p1 p2 : Bool) (q0 : Int) (q1 q2 : Bool) (r0 : Int) (r1 r2 : Bool) :
    redactorlaw04_CodecAlike.j3 (k + 1) b b b 0 0 0 f p0 p1 p2 b q0 q1 q2 b r0 r1 r2 b = some true := by
  cases f
  · simp only [redactorlaw04_CodecAlike.j3]
    rw [if_neg (show ¬ (false = true) by decide), if_pos trivial, if_pos trivial, if_pos trivial, same_f k b b hk (by omega), Option.bind_some, if_pos (decide_eq_true rfl), Option.bind_some, if_pos (decide_eq_true rfl), Option.bind_some, if_pos (decide_eq_true rfl), beq_self_eq_true]
  · exact alike_true k b b b _ _ _ _ _ _ _ _ _ _ _ _
theorem alike_j2 (k : Nat) (b : List Int) (bm big : Bool) (hB : Bytes b) (hl : b.length ≤ 200) (hk : 5000 < k) (hb : bm = false → big = true) :
    redactorlaw04_CodecAlike.j2 (k + 2) b bm b b 0 (enc b) 0 ((if bm = true then bom big else []) ++ enc16 big b) 0 = some true := by
  have hsc : ∀ c ∈ b, 0 ≤ c ∧ Right c := fun c hc => ⟨(hB c hc).1, bytes_right hB c hc⟩
  have hsm : ∀ c ∈ b, 0 ≤ c ∧ c < 55296 := fun c hc => by have := hB c hc; omega
  have eb := enc_bytes b (bytes_right hB)
  have el := enc_len b
  have wl : (enc16 big b).length ≤ 4 * b.length := by
    clear hk hl hB hsc hsm eb el hb
    induction b with
    | nil => simp [enc16_nil]
    | cons c l ih =>
      rw [enc16_cons, List.length_append, List.length_cons]
      have := seq16_len big c
      omega
  have wb : Bytes (enc16 big b) := by
    clear hk hl eb el hb wl hsc hB
    induction b with
    | nil => rw [enc16_nil]; exact Bytes.nil
    | cons c l ih =>
      rw [enc16_cons]
      have hc := hsm c List.mem_cons_self
      refine Bytes.append ?_ (ih (fun d hd => hsm d (List.mem_cons_of_mem _ hd)))
      unfold seq16 put
      rw [if_neg (by omega), if_pos (by omega)]
      intro x hx
      cases big
      · rw [if_neg (by decide)] at hx; simp at hx; omega
      · rw [if_pos rfl] at hx; simp at hx; omega
  have d3 := dec_3 (k + 1) b hB (by omega)
  have d1 := dec_1 (k + 1) (enc b) eb (by omega) (by omega)
  rw [decode_enc b hsc] at d1
  have go := fun f => alike_any k b f (by omega) (by omega)
  cases bm
  · rw [hb rfl] at wb wl ⊢
    rw [if_neg (show ¬ (false = true) by decide), List.nil_append]
    obtain ⟨z, hz⟩ : ∃ z, z = enc16 true b := ⟨_, rfl⟩
    rw [← hz] at wb wl ⊢
    rcases s2_cases wb with ⟨r, hr, _⟩ | ⟨hs, _⟩
    · obtain ⟨bg, hbg⟩ : ∃ x, x = (s2 z).1 := ⟨_, rfl⟩
      rw [← hbg] at hr
      have hrb : Bytes r := fun x hx => wb x (by rw [hr]; exact List.mem_append_right _ hx)
      have hrl : r.length ≤ 800 := by have := congrArg List.length hr; rw [List.length_append] at this; omega
      have d2 := dec_2_mark (k + 1) bg r hrb (by omega) (by omega)
      rw [← hr] at d2
      simp only [redactorlaw04_CodecAlike.j2]
      rw [d3, Option.bind_some, d1, Option.bind_some, d2, Option.bind_some, if_neg (show ¬ (false = true) by decide)]
      have z2 : 2 ≤ z.length := by rw [hr, List.length_append]; unfold bom; cases bg <;> simp
      rw [if_pos (by omega), if_pos (by omega)]
      cases bg
      · have z0 : rd z 0 = 255 := by rw [hr]; rfl
        have z1 : rd z 1 = 254 := by rw [hr]; rfl
        rw [z0, if_pos rfl, if_pos (by omega), z1, if_pos rfl]
        exact alike_true k b b b _ _ _ _ _ _ _ _ _ _ _ _
      · have z0 : rd z 0 = 254 := by rw [hr]; rfl
        have z1 : rd z 1 = 255 := by rw [hr]; rfl
        rw [z0, if_neg (by decide), if_pos rfl, if_pos (by omega), z1]
        exact alike_true k b b b _ _ _ _ _ _ _ _ _ _ _ _
    · have d2 := dec_2_none (k + 1) z wb hs (by omega) (by omega)
      rw [hz, dec16_enc16 true b hsm, ← hz] at d2
      simp only [redactorlaw04_CodecAlike.j2]
      rw [d3, Option.bind_some, d1, Option.bind_some, d2, Option.bind_some, if_neg (show ¬ (false = true) by decide)]
      by_cases z2 : (z.length : Int) ≥ 2
      · rw [if_pos z2, if_pos (by omega)]
        by_cases z0 : rd z 0 = 255
        · rw [if_pos z0, if_pos (by omega)]
          by_cases z1 : rd z 1 = 254
          · rw [if_pos z1]; exact go _ _ _ _ _ _ _ _ _ _
          · rw [if_neg z1]
            by_cases z3 : rd z 0 = 254
            · rw [if_pos z3]; exact go _ _ _ _ _ _ _ _ _ _
            · rw [if_neg z3]; exact go _ _ _ _ _ _ _ _ _ _
        · rw [if_neg z0]
          by_cases z3 : rd z 0 = 254
          · rw [if_pos z3, if_pos (by omega)]; exact go _ _ _ _ _ _ _ _ _ _
          · rw [if_neg z3]; exact go _ _ _ _ _ _ _ _ _ _
      · rw [if_neg z2]; exact go _ _ _ _ _ _ _ _ _ _
  · rw [if_pos rfl]
    have d2 := dec_2_mark (k + 1) big (enc16 big b) wb (by omega) (by omega)
    rw [dec16_enc16 big b hsm] at d2
    simp only [redactorlaw04_CodecAlike.j2]
    rw [d3, Option.bind_some, d1, Option.bind_some, d2, Option.bind_some, if_pos trivial]
    exact go _ _ _ _ _ _ _ _ _ _
theorem alike_loop : ∀ (d k : Nat) (b : List Int) (a1 a2 : Bool) (i : Nat), Bytes b → i + d = b.length → b.length ≤ 200 → d + 6000 < k → redactorlaw04_CodecAlike.l0 k b a1 a2 (b.take i) (i : Int) = some true := by
  intro d
  induction d with
  | zero =>
    intro k b a1 a2 i hB hi hl hk
    obtain ⟨k, rfl⟩ : ∃ m, k = m + 3 := ⟨k - 3, by omega⟩
    have e : b.take i = b := List.take_of_length_le (by omega)
    have hr := bytes_right hB
    rw [e]
    simp only [redactorlaw04_CodecAlike.l0]
    rw [if_neg (by omega), enc_3 (k + 2) b hB (by omega) (by omega), Option.bind_some, enc_1 (k + 2) b hr (by omega) (by omega), Option.bind_some]
    cases a1
    · rw [if_neg (by decide), enc_2 (k + 2) (!a2) a2 b hr (by omega) (by omega), Option.bind_some]
      exact alike_j2 k b a2 (!a2) hB hl (by omega) (fun h => by rw [h]; rfl)
    · rw [if_pos rfl, enc_2 (k + 2) true a2 b hr (by omega) (by omega), Option.bind_some]
      exact alike_j2 k b a2 true hB hl (by omega) (fun h => rfl)
  | succ d ih =>
    intro k b a1 a2 i hB hi hl hk
    obtain ⟨k, rfl⟩ : ∃ m, k = m + 1 := ⟨k - 1, by omega⟩
    have hlt : i < b.length := by omega
    have hx : 0 ≤ rd b i ∧ rd b i < 256 := by
      have := hB.drop i
      rw [drop_rd b i hlt] at this
      exact this.head
    have ew : wrap64 ((i : Int) + 1) = ((i + 1 : Nat) : Int) := by rw [w64 (by omega) (by omega)]; omega
    have et : b.take i ++ [rd b i] = b.take (i + 1) := by
      rw [List.take_succ_eq_append_getElem hlt]
      unfold rd
      simp [List.getElem?_eq_getElem hlt]
    simp only [redactorlaw04_CodecAlike.l0]
    rw [if_pos (by omega), if_pos (by omega), if_pos (by rw [List.length_take]; omega), w32 (i := rd b i) (by omega) (by omega), ew, et]
    exact ih k b a1 a2 (i + 1) hB (by omega) hl (by omega)
theorem CodecAlike : redactorlaw04_CodecAlike.Pure := by
  intro b a1 a2 hb1 hb2 hb
  have hB := wf_bytes hb
  refine ⟨8000, ?_⟩
  unfold redactorlaw04_CodecAlike.f
  by_cases h : (b.length : Int) > 200
  · rw [if_pos h]
    simp only [redactorlaw04_CodecAlike.j0]
    rw [if_pos trivial, known_f 7999 (by omega), Option.bind_some]
  · rw [if_neg h, known_f 8000 (by omega), Option.bind_some]
    simp only [redactorlaw04_CodecAlike.j0]
    rw [if_neg (by simp)]
    exact alike_loop b.length 7999 b a1 a2 0 hB (by omega) (by omega) (by omega)
#print axioms CodecAlike
end Go.Proofs.YtcofbakhhcgbfaaDoor.Pure
