/- What the document's Encode and Canonical come to, and the choices' cells: at most sixty. Conditions: lists are shorter than Go's bound. -/
import Derived.Test.YtopkhidncfcjlaaDoorPureUtfRef
import Derived.Test.YtopkhidncfcjlaaDoorPX5
import Derived.Test.YtopkhidncfcjlaaDoorPX6
namespace Go.Proofs.YtopkhidncfcjlaaDoor.Utf
open Go.RowKit Go.Proofs.YtopkhidncfcjlaaDoorW.PrintWords Go.Proofs.YtopkhidncfcjlaaDoorW.PrintLast Go.Proofs.YtopkhidncfcjlaaDoorW.PrintMore
set_option linter.unusedVariables false

theorem ref_byte_f (c : Int) (h : -256 ≤ c) : PX.redactorref01_Byte.f c = some (if c < 0 then (-1 - c, true) else (0, false)) := by
  unfold PX.redactorref01_Byte.f
  by_cases h1 : c ≥ 0
  · rw [if_pos h1, if_neg (by omega)]
  · rw [if_neg h1, if_neg (by omega), if_pos (by omega), w32 (by omega) (by omega)]
    have e : (-1 - c) % 256 = -1 - c := by omega
    rw [e]
theorem sequence_f (c : Int) (h0 : 0 ≤ c) (h : Right c) : PX.redactorref02_sequence.f c = some (seq1 c) := by
  obtain ⟨_, h1, _⟩ := h
  unfold PX.redactorref02_sequence.f seq1
  rw [if_neg (show ¬ c < 0 by omega)]
  have q6 : Int.tdiv c 64 = c / 64 := Int.tdiv_eq_ediv_of_nonneg h0
  have q12 : Int.tdiv c 4096 = c / 4096 := Int.tdiv_eq_ediv_of_nonneg h0
  have q18 : Int.tdiv c 262144 = c / 262144 := Int.tdiv_eq_ediv_of_nonneg h0
  have m6 : Int.tmod c 64 = c % 64 := Int.tmod_eq_emod_of_nonneg h0
  rw [q6, q12, q18, m6, w32 (i := c / 64) (by omega) (by omega), w32 (i := c / 4096) (by omega) (by omega), w32 (i := c / 262144) (by omega) (by omega)]
  rw [Int.tmod_eq_emod_of_nonneg (a := c / 64) (by omega), Int.tmod_eq_emod_of_nonneg (a := c / 4096) (by omega)]
  rw [w32 (i := 192 + c / 64) (by omega) (by omega), w32 (i := 224 + c / 4096) (by omega) (by omega), w32 (i := 240 + c / 262144) (by omega) (by omega), w32 (i := 128 + c % 64) (by omega) (by omega), w32 (i := 128 + c / 64 % 64) (by omega) (by omega), w32 (i := 128 + c / 4096 % 64) (by omega) (by omega)]
  have e1 : (128 + c % 64) % 256 = 128 + c % 64 := by omega
  have e2 : (128 + c / 64 % 64) % 256 = 128 + c / 64 % 64 := by omega
  have e3 : (128 + c / 4096 % 64) % 256 = 128 + c / 4096 % 64 := by omega
  rw [e1, e2, e3]
  by_cases k1 : c < 128
  · have e : c % 256 = c := by omega
    rw [if_pos k1, if_pos k1, e]
  · rw [if_neg k1, if_neg k1]
    by_cases k2 : c < 2048
    · have e : (192 + c / 64) % 256 = 192 + c / 64 := by omega
      rw [if_pos k2, if_pos k2, e]
    · rw [if_neg k2, if_neg k2]
      by_cases k3 : c < 65536
      · have e : (224 + c / 4096) % 256 = 224 + c / 4096 := by omega
        rw [if_pos k3, if_pos k3, e]
      · have e : (240 + c / 262144) % 256 = 240 + c / 262144 := by omega
        rw [if_neg k3, if_neg k3, e]
theorem ref_encode_l0 : ∀ (d k : Nat) (acc l : List Int) (i : Nat), i + d = l.length → d < k → acc.length + 4 * d < 140737488355328 → l.length < 140737488355328 →
    PX.redactorref02_Encode.l0 k l acc (i : Int) = some (if ∀ c ∈ l.drop i, Right c then (acc ++ enc (l.drop i), 0) else ([], 10)) := by
  intro d
  induction d with
  | zero =>
    intro k acc l i hi hk hl hl2
    obtain ⟨k, rfl⟩ : ∃ m, k = m + 1 := ⟨k - 1, by omega⟩
    have e : l.drop i = [] := List.drop_eq_nil_of_le (by omega)
    simp only [PX.redactorref02_Encode.l0]
    rw [if_neg (by omega), e, if_pos (fun c hc => by cases hc), enc_nil, List.append_nil]
  | succ d ih =>
    intro k acc l i hi hk hl hl2
    obtain ⟨k, rfl⟩ : ∃ m, k = m + 1 := ⟨k - 1, by omega⟩
    have hlt : i < l.length := by omega
    have e := drop_rd l i hlt
    have ew : wrap64 ((i : Int) + 1) = ((i + 1 : Nat) : Int) := by rw [w64 (by omega) (by omega)]; omega
    simp only [PX.redactorref02_Encode.l0]
    rw [if_pos (by omega), if_pos (by omega), ref_right_f, Option.bind_some, e, ew]
    by_cases hr : Right (rd l i)
    · have hr' := hr
      obtain ⟨hr0, _⟩ := hr'
      rw [decide_eq_true hr, if_pos rfl, ref_byte_f _ hr0, Option.bind_some]
      have step : ∀ acc2 : List Int, acc2 = acc ++ seq1 (rd l i) → PX.redactorref02_Encode.l0 k l acc2 ((i + 1 : Nat) : Int) = some (if ∀ c ∈ rd l i :: l.drop (i + 1), Right c then (acc ++ enc (rd l i :: l.drop (i + 1)), 0) else ([], 10)) := by
        rintro acc2 rfl
        have hs := seq1_len (rd l i)
        rw [ih k (acc ++ seq1 (rd l i)) l (i + 1) (by omega) (by omega) (by rw [List.length_append]; omega) hl2, enc_cons]
        congr 1
        by_cases hall : ∀ c ∈ l.drop (i + 1), Right c
        · rw [if_pos hall, if_pos (fun c hc => (List.mem_cons.1 hc).elim (fun e => e ▸ hr) (hall c)), List.append_assoc]
        · rw [if_neg hall, if_neg (fun h => hall (fun c hc => h c (List.mem_cons_of_mem _ hc)))]
      have hs := seq1_len (rd l i)
      by_cases hn : rd l i < 0
      · rw [if_pos hn]
        rw [if_pos rfl, if_pos (by omega)]
        refine step _ ?_
        unfold seq1
        rw [if_pos hn]
      · rw [if_neg hn]
        rw [if_neg (by simp), sequence_f (rd l i) (by omega) hr, Option.bind_some, if_pos (by omega)]
        exact step _ rfl
    · rw [decide_eq_false hr, if_neg (by simp), if_neg (fun h => hr (h _ List.mem_cons_self))]
theorem ref_encode_f (k : Nat) (l : List Int) (hk : l.length < k) (hl : 4 * l.length < 140737488355328) : PX.redactorref02_Encode.f k l = some (if ∀ c ∈ l, Right c then (enc l, 0) else ([], 10)) := by
  unfold PX.redactorref02_Encode.f
  have := ref_encode_l0 l.length k [] l 0 (by omega) hk (by simp; omega) (by omega)
  rw [show ((0 : Nat) : Int) = 0 from rfl] at this
  rw [this]
  simp
theorem ref_canonical_f (k : Nat) (l : List Int) (hk : 8 * l.length + 10 < k) (hl : 4 * l.length < 35184372088832) : PX.redactorref02_Canonical.f k l = some (decide ((∀ c ∈ l, Right c) ∧ dec8 (enc l) = l)) := by
  unfold PX.redactorref02_Canonical.f
  rw [ref_encode_f k l (by omega) (by omega), Option.bind_some]
  by_cases h : ∀ c ∈ l, Right c
  · have hl2 := enc_len l
    have hb := enc_bytes l h
    have hd := decode_len hb
    rw [if_pos h]
    simp only
    rw [if_pos trivial, ref_decode_f k _ hb (by omega) (by omega), Option.bind_some, same_f k _ _ (by omega) (by omega), Option.bind_some]
    congr 1
    rw [decide_eq_decide]
    exact ⟨fun x => ⟨h, x⟩, fun x => x.2⟩
  · rw [if_neg h]
    simp only
    rw [if_neg (by decide), decide_eq_false (fun x => h x.1)]

/-! ### The choices' cells -/
theorem cells_l0 (l : List Int) (hl : Bytes l) (hs : l.length < 140737488355328) : ∀ (d i : Nat) (acc : List Int), i + d = min l.length 60 → acc.length = i →
    ∃ m : List Int, m.length ≤ 60 ∧ ∀ k, 2 * d + 2 ≤ k → PX.redactorlaw01_Cells.l0 k l acc (i : Int) = some m := by
  intro d
  induction d with
  | zero =>
    intro i acc hi hi2
    refine ⟨acc, by omega, fun k hk => ?_⟩
    obtain ⟨k, rfl⟩ : ∃ m, k = m + 2 := ⟨k - 2, by omega⟩
    simp only [PX.redactorlaw01_Cells.l0]
    by_cases h : (i : Int) < (l.length : Int)
    · rw [if_pos h, decide_eq_false (by omega)]
      simp only [PX.redactorlaw01_Cells.j1]
      rw [if_neg (by simp)]
    · rw [if_neg h]
      simp only [PX.redactorlaw01_Cells.j1]
      rw [if_neg (by simp)]
  | succ d ih =>
    intro i acc hi hi2
    have hb := rd_bytes hl (i : Int)
    have key : ∃ x : Int, ∀ k, PX.redactorlaw01_Cells.l0 (k + 2) l acc (i : Int) = PX.redactorlaw01_Cells.l0 k l (acc ++ [x]) ((i + 1 : Nat) : Int) := by
      have ew : wrap64 ((i : Int) + 1) = ((i + 1 : Nat) : Int) := by rw [w64 (by omega) (by omega)]; omega
      have e0 : wrap64 (rd l i) = rd l i := w64 (by omega) (by omega)
      have p1 : (i : Int) < (l.length : Int) := by omega
      have p2 : (i : Int) < 60 := by omega
      have p3 : 0 ≤ (i : Int) := by omega
      have p4 : acc.length < 35184372088832 := by omega
      have m7 : Int.tmod (rd l i) 7 = rd l i % 7 := Int.tmod_eq_emod_of_nonneg hb.1
      have m5 : Int.tmod (rd l i) 5 = rd l i % 5 := Int.tmod_eq_emod_of_nonneg hb.1
      have s7 : (([32, 48, 55, 59, 45, 92, 47] : List Int).length : Int) = 7 := rfl
      have s5 : (([233, 8364, 128512, 127, 9] : List Int).length : Int) = 5 := rfl
      have g7 : 0 ≤ rd l i % 7 ∧ rd l i % 7 < 7 := by omega
      have g5 : 0 ≤ rd l i % 5 ∧ rd l i % 5 < 5 := by omega
      clear hi hs ih
      by_cases q1 : rd l i < 150
      · refine ⟨wrap32 (wrap64 (97 + (Int.tmod (rd l i) 4))), fun k => ?_⟩
        simp only [PX.redactorlaw01_Cells.l0]
        rw [if_pos p1, decide_eq_true p2]
        simp only [PX.redactorlaw01_Cells.j1]
        rw [if_pos trivial, if_pos p3, if_pos p1, e0, if_pos q1, if_pos p4, ew]
      · by_cases q2 : rd l i < 180
        · refine ⟨wrap32 (wrap64 (65 + (Int.tmod (rd l i) 4))), fun k => ?_⟩
          simp only [PX.redactorlaw01_Cells.l0]
          rw [if_pos p1, decide_eq_true p2]
          simp only [PX.redactorlaw01_Cells.j1]
          rw [if_pos trivial, if_pos p3, if_pos p1, e0, if_neg q1, if_pos q2, if_pos p4, ew]
        · by_cases q3 : rd l i < 200
          · refine ⟨10, fun k => ?_⟩
            simp only [PX.redactorlaw01_Cells.l0]
            rw [if_pos p1, decide_eq_true p2]
            simp only [PX.redactorlaw01_Cells.j1]
            rw [if_pos trivial, if_pos p3, if_pos p1, e0, if_neg q1, if_neg q2, if_pos q3, if_pos p4, ew]
          · by_cases q4 : rd l i < 215
            · refine ⟨rd [32, 48, 55, 59, 45, 92, 47] (rd l i % 7), fun k => ?_⟩
              simp only [PX.redactorlaw01_Cells.l0]
              rw [if_pos p1, decide_eq_true p2]
              simp only [PX.redactorlaw01_Cells.j1]
              rw [if_pos trivial, if_pos p3, if_pos p1, e0, if_neg q1, if_neg q2, if_neg q3, if_pos q4, Option.bind_some, m7, s7, if_pos g7.1, if_pos g7.2, if_pos p4, ew]
            · by_cases q5 : rd l i < 235
              · refine ⟨rd [233, 8364, 128512, 127, 9] (rd l i % 5), fun k => ?_⟩
                simp only [PX.redactorlaw01_Cells.l0]
                rw [if_pos p1, decide_eq_true p2]
                simp only [PX.redactorlaw01_Cells.j1]
                rw [if_pos trivial, if_pos p3, if_pos p1, e0, if_neg q1, if_neg q2, if_neg q3, if_neg q4, if_pos q5, Option.bind_some, m5, s5, if_pos g5.1, if_pos g5.2, if_pos p4, ew]
              · refine ⟨wrap32 ((-1) - (wrap32 (wrap64 (128 + (Int.tmod (rd l i) 128))))), fun k => ?_⟩
                simp only [PX.redactorlaw01_Cells.l0]
                rw [if_pos p1, decide_eq_true p2]
                simp only [PX.redactorlaw01_Cells.j1]
                rw [if_pos trivial, if_pos p3, if_pos p1, e0, if_neg q1, if_neg q2, if_neg q3, if_neg q4, if_neg q5, if_pos p4, ew]
    obtain ⟨x, hx⟩ := key
    obtain ⟨m, hm, h⟩ := ih (i + 1) (acc ++ [x]) (by omega) (by rw [List.length_append]; simp; omega)
    refine ⟨m, hm, fun k hk => ?_⟩
    have h2 := h (k - 2) (by omega)
    obtain ⟨k, rfl⟩ : ∃ m, k = m + 2 := ⟨k - 2, by omega⟩
    rw [hx]
    exact h2
theorem cells_f (l : List Int) (hl : Bytes l) (hs : l.length < 140737488355328) : ∃ m : List Int, m.length ≤ 60 ∧ ∀ k, 130 ≤ k → PX.redactorlaw01_Cells.f k l = some m := by
  obtain ⟨m, h1, h⟩ := cells_l0 l hl hs (min l.length 60) 0 [] (by omega) rfl
  exact ⟨m, h1, fun k hk => h k (by omega)⟩
#print axioms ref_canonical_f
#print axioms cells_f
end Go.Proofs.YtopkhidncfcjlaaDoor.Utf
