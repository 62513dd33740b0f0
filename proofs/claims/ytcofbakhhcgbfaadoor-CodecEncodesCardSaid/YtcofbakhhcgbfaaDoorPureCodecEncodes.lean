/- The document's answer for UTF-8: Encode is 'enc' where every cell is right; and the cells that choices say. Conditions: lists are shorter than Go's bound. -/
import Derived.Test.YtcofbakhhcgbfaaDoorPureKnownK
import Derived.Test.YtcofbakhhcgbfaaDoorPZ1
import Derived.Test.YtcofbakhhcgbfaaDoorPZ4
import Derived.Test.YtcofbakhhcgbfaaDoorPZ3
import Derived.Test.YtcofbakhhcgbfaaDoorPZ2
import Derived.Test.YtcofbakhhcgbfaaDoorPZ5
namespace Go.Proofs.YtcofbakhhcgbfaaDoor.Utf
open Go.RowKit Go.Proofs.YtcofbakhhcgbfaaDoorW.PrintWords Go.Proofs.YtcofbakhhcgbfaaDoorW.PrintLast Go.Proofs.YtcofbakhhcgbfaaDoorW.PrintMore
set_option linter.unusedVariables false

theorem ref_right_f (c : Int) : PZ.redactorref01_Right.f c = some (decide (Right c)) := by
  unfold PZ.redactorref01_Right.f
  by_cases h1 : c ≥ -256
  · rw [if_pos h1]
    by_cases h2 : c < 55296
    · rw [if_pos h2, decide_eq_true (show Right c by unfold Right; omega)]
    · rw [if_neg h2]
      by_cases h3 : c > 57343
      · rw [if_pos h3]
        congr 1
        rw [decide_eq_decide]
        unfold Right
        omega
      · rw [if_neg h3, decide_eq_false (show ¬ Right c by unfold Right; omega)]
  · rw [if_neg h1, if_neg (by omega), decide_eq_false (show ¬ Right c by unfold Right; omega)]
theorem ref_byte_f (c : Int) (h : -256 ≤ c) : PZ.redactorref01_Byte.f c = some (if c < 0 then (-1 - c, true) else (0, false)) := by
  unfold PZ.redactorref01_Byte.f
  by_cases h1 : c ≥ 0
  · rw [if_pos h1, if_neg (by omega)]
  · rw [if_neg h1, if_neg (by omega), if_pos (by omega), w32 (by omega) (by omega)]
    have e : (-1 - c) % 256 = -1 - c := by omega
    rw [e]
theorem sequence_f (c : Int) (h0 : 0 ≤ c) (h : Right c) : PZ.redactorref02_sequence.f c = some (seq1 c) := by
  obtain ⟨_, h1, _⟩ := h
  unfold PZ.redactorref02_sequence.f seq1
  rw [if_neg (show ¬ c < 0 by omega)]
  have q6 : Int.tdiv c 64 = c / 64 := Int.tdiv_eq_ediv_of_nonneg h0
  have q12 : Int.tdiv c 4096 = c / 4096 := Int.tdiv_eq_ediv_of_nonneg h0
  have q18 : Int.tdiv c 262144 = c / 262144 := Int.tdiv_eq_ediv_of_nonneg h0
  have m6 : Int.tmod c 64 = c % 64 := Int.tmod_eq_emod_of_nonneg h0
  rw [q6, q12, q18, m6, w32 (i := c / 64) (by omega) (by omega), w32 (i := c / 4096) (by omega) (by omega), w32 (i := c / 262144) (by omega) (by omega)]
  rw [Int.tmod_eq_emod_of_nonneg (a := c / 64) (by omega), Int.tmod_eq_emod_of_nonneg (a := c / 4096) (by omega)]
  rw [w32 (i := 192 + c / 64) (by omega) (by omega), w32 (i := 224 + c / 4096) (by omega) (by omega), w32 (i := 240 + c / 262144) (by omega) (by omega), w32 (i := 128 + c % 64) (by omega) (by omega), w32 (i := 128 + c / 64 % 64) (by omega) (by omega), w32 (i := 128 + c / 4096 % 64) (by omega) (by omega)]
  have e1 : (128 + c % 64) % 256 = 128 + c % 64 := by omega
  have e2 : (128 + c / 64 % 64) % 256 = 128 + c / 64 % 64 := by omega
  have e3 : (128 + c / 4096 % 64) % 256 = 128 + c / 4096 % 64 := by omega
  rw [e1, e2, e3]
  by_cases k1 : c < 128
  · have e : c % 256 = c := by omega
    rw [if_pos k1, if_pos k1, e]
  · rw [if_neg k1, if_neg k1]
    by_cases k2 : c < 2048
    · have e : (192 + c / 64) % 256 = 192 + c / 64 := by omega
      rw [if_pos k2, if_pos k2, e]
    · rw [if_neg k2, if_neg k2]
      by_cases k3 : c < 65536
      · have e : (224 + c / 4096) % 256 = 224 + c / 4096 := by omega
        rw [if_pos k3, if_pos k3, e]
      · have e : (240 + c / 262144) % 256 = 240 + c / 262144 := by omega
        rw [if_neg k3, if_neg k3, e]
theorem ref_encode_l0 : ∀ (d k : Nat) (acc l : List Int) (i : Nat), i + d = l.length → d < k → acc.length + 4 * d < 140737488355328 → l.length < 140737488355328 →
    PZ.redactorref02_Encode.l0 k l acc (i : Int) = some (if ∀ c ∈ l.drop i, Right c then (acc ++ enc (l.drop i), 0) else ([], 10)) := by
  intro d
  induction d with
  | zero =>
    intro k acc l i hi hk hl hl2
    obtain ⟨k, rfl⟩ : ∃ m, k = m + 1 := ⟨k - 1, by omega⟩
    have e : l.drop i = [] := List.drop_eq_nil_of_le (by omega)
    simp only [PZ.redactorref02_Encode.l0]
    rw [if_neg (by omega), e, if_pos (fun c hc => by cases hc), enc_nil, List.append_nil]
  | succ d ih =>
    intro k acc l i hi hk hl hl2
    obtain ⟨k, rfl⟩ : ∃ m, k = m + 1 := ⟨k - 1, by omega⟩
    have hlt : i < l.length := by omega
    have e := drop_rd l i hlt
    have ew : wrap64 ((i : Int) + 1) = ((i + 1 : Nat) : Int) := by rw [w64 (by omega) (by omega)]; omega
    simp only [PZ.redactorref02_Encode.l0]
    rw [if_pos (by omega), if_pos (by omega), ref_right_f, Option.bind_some, e, ew]
    by_cases hr : Right (rd l i)
    · have hr' := hr
      obtain ⟨hr0, _⟩ := hr'
      rw [decide_eq_true hr, if_pos rfl, ref_byte_f _ hr0, Option.bind_some]
      have step : ∀ acc2 : List Int, acc2 = acc ++ seq1 (rd l i) → PZ.redactorref02_Encode.l0 k l acc2 ((i + 1 : Nat) : Int) = some (if ∀ c ∈ rd l i :: l.drop (i + 1), Right c then (acc ++ enc (rd l i :: l.drop (i + 1)), 0) else ([], 10)) := by
        rintro acc2 rfl
        have hs := seq1_len (rd l i)
        rw [ih k (acc ++ seq1 (rd l i)) l (i + 1) (by omega) (by omega) (by rw [List.length_append]; omega) hl2, enc_cons]
        congr 1
        by_cases hall : ∀ c ∈ l.drop (i + 1), Right c
        · rw [if_pos hall, if_pos (fun c hc => (List.mem_cons.1 hc).elim (fun e => e ▸ hr) (hall c)), List.append_assoc]
        · rw [if_neg hall, if_neg (fun h => hall (fun c hc => h c (List.mem_cons_of_mem _ hc)))]
      have hs := seq1_len (rd l i)
      by_cases hn : rd l i < 0
      · rw [if_pos hn]
        rw [if_pos rfl, if_pos (by omega)]
        refine step _ ?_
        unfold seq1
        rw [if_pos hn]
      · rw [if_neg hn]
        rw [if_neg (by simp), sequence_f (rd l i) (by omega) hr, Option.bind_some, if_pos (by omega)]
        exact step _ rfl
    · rw [decide_eq_false hr, if_neg (by simp), if_neg (fun h => hr (h _ List.mem_cons_self))]
theorem ref_encode_f (k : Nat) (l : List Int) (hk : l.length < k) (hl : 4 * l.length < 140737488355328) : PZ.redactorref02_Encode.f k l = some (if ∀ c ∈ l, Right c then (enc l, 0) else ([], 10)) := by
  unfold PZ.redactorref02_Encode.f
  have := ref_encode_l0 l.length k [] l 0 (by omega) hk (by simp; omega) (by omega)
  rw [show ((0 : Nat) : Int) = 0 from rfl] at this
  rw [this]
  simp
theorem rd_bytes {l : List Int} (h : Bytes l) (i : Int) : 0 ≤ rd l i ∧ rd l i < 256 := by
  unfold rd
  rw [List.getD_eq_getElem?_getD]
  by_cases hi : i.toNat < l.length
  · rw [List.getElem?_eq_getElem hi]; exact h _ (List.getElem_mem hi)
  · rw [List.getElem?_eq_none (by omega)]; simp
theorem cells_l0 (l : List Int) (hl : Bytes l) (hs : l.length < 140737488355328) : ∀ (d i : Nat) (acc : List Int), i + d = min l.length 60 → acc.length = i →
    ∃ m : List Int, m.length ≤ 60 ∧ ∀ k, 2 * d + 2 ≤ k → PZ.redactorlaw01_Cells.l0 k l acc (i : Int) = some m := by
  intro d
  induction d with
  | zero =>
    intro i acc hi hi2
    refine ⟨acc, by omega, fun k hk => ?_⟩
    obtain ⟨k, rfl⟩ : ∃ m, k = m + 2 := ⟨k - 2, by omega⟩
    simp only [PZ.redactorlaw01_Cells.l0]
    by_cases h : (i : Int) < (l.length : Int)
    · rw [if_pos h, decide_eq_false (by omega)]
      simp only [PZ.redactorlaw01_Cells.j1]
      rw [if_neg (by simp)]
    · rw [if_neg h]
      simp only [PZ.redactorlaw01_Cells.j1]
      rw [if_neg (by simp)]
  | succ d ih =>
    intro i acc hi hi2
    have hb := rd_bytes hl (i : Int)
    have key : ∃ x : Int, ∀ k, PZ.redactorlaw01_Cells.l0 (k + 2) l acc (i : Int) = PZ.redactorlaw01_Cells.l0 k l (acc ++ [x]) ((i + 1 : Nat) : Int) := by
      have ew : wrap64 ((i : Int) + 1) = ((i + 1 : Nat) : Int) := by rw [w64 (by omega) (by omega)]; omega
      have e0 : wrap64 (rd l i) = rd l i := w64 (by omega) (by omega)
      have p1 : (i : Int) < (l.length : Int) := by omega
      have p2 : (i : Int) < 60 := by omega
      have p3 : 0 ≤ (i : Int) := by omega
      have p4 : acc.length < 35184372088832 := by omega
      have m7 : Int.tmod (rd l i) 7 = rd l i % 7 := Int.tmod_eq_emod_of_nonneg hb.1
      have m5 : Int.tmod (rd l i) 5 = rd l i % 5 := Int.tmod_eq_emod_of_nonneg hb.1
      have s7 : (([32, 48, 55, 59, 45, 92, 47] : List Int).length : Int) = 7 := rfl
      have s5 : (([233, 8364, 128512, 127, 9] : List Int).length : Int) = 5 := rfl
      have g7 : 0 ≤ rd l i % 7 ∧ rd l i % 7 < 7 := by omega
      have g5 : 0 ≤ rd l i % 5 ∧ rd l i % 5 < 5 := by omega
      clear hi hs ih
      by_cases q1 : rd l i < 150
      · refine ⟨wrap32 (wrap64 (97 + (Int.tmod (rd l i) 4))), fun k => ?_⟩
        simp only [PZ.redactorlaw01_Cells.l0]
        rw [if_pos p1, decide_eq_true p2]
        simp only [PZ.redactorlaw01_Cells.j1]
        rw [if_pos trivial, if_pos p3, if_pos p1, e0, if_pos q1, if_pos p4, ew]
      · by_cases q2 : rd l i < 180
        · refine ⟨wrap32 (wrap64 (65 + (Int.tmod (rd l i) 4))), fun k => ?_⟩
          simp only [PZ.redactorlaw01_Cells.l0]
          rw [if_pos p1, decide_eq_true p2]
          simp only [PZ.redactorlaw01_Cells.j1]
          rw [if_pos trivial, if_pos p3, if_pos p1, e0, if_neg q1, if_pos q2, if_pos p4, ew]
        · by_cases q3 : rd l i < 200
          · refine ⟨10, fun k => ?_⟩
            simp only [PZ.redactorlaw01_Cells.l0]
            rw [if_pos p1, decide_eq_true p2]
            simp only [PZ.redactorlaw01_Cells.j1]
            rw [if_pos trivial, if_pos p3, if_pos p1, e0, if_neg q1, if_neg q2, if_pos q3, if_pos p4, ew]
          · by_cases q4 : rd l i < 215
            · refine ⟨rd [32, 48, 55, 59, 45, 92, 47] (rd l i % 7), fun k => ?_⟩
              simp only [PZ.redactorlaw01_Cells.l0]
              rw [if_pos p1, decide_eq_true p2]
              simp only [PZ.redactorlaw01_Cells.j1]
              rw [if_pos trivial, if_pos p3, if_pos p1, e0, if_neg q1, if_neg q2, if_neg q3, if_pos q4, Option.bind_some, m7, s7, if_pos g7.1, if_pos g7.2, if_pos p4, ew]
            · by_cases q5 : rd l i < 235
              · refine ⟨rd [233, 8364, 128512, 127, 9] (rd l i % 5), fun k => ?_⟩
                simp only [PZ.redactorlaw01_Cells.l0]
                rw [if_pos p1, decide_eq_true p2]
                simp only [PZ.redactorlaw01_Cells.j1]
                rw [if_pos trivial, if_pos p3, if_pos p1, e0, if_neg q1, if_neg q2, if_neg q3, if_neg q4, if_pos q5, Option.bind_some, m5, s5, if_pos g5.1, if_pos g5.2, if_pos p4, ew]
              · refine ⟨wrap32 ((-1) - (wrap32 (wrap64 (128 + (Int.tmod (rd l i) 128))))), fun k => ?_⟩
                simp only [PZ.redactorlaw01_Cells.l0]
                rw [if_pos p1, decide_eq_true p2]
                simp only [PZ.redactorlaw01_Cells.j1]
                rw [if_pos trivial, if_pos p3, if_pos p1, e0, if_neg q1, if_neg q2, if_neg q3, if_neg q4, if_neg q5, if_pos p4, ew]
    obtain ⟨x, hx⟩ := key
    obtain ⟨m, hm, h⟩ := ih (i + 1) (acc ++ [x]) (by omega) (by rw [List.length_append]; simp; omega)
    refine ⟨m, hm, fun k hk => ?_⟩
    have h2 := h (k - 2) (by omega)
    obtain ⟨k, rfl⟩ : ∃ m, k = m + 2 := ⟨k - 2, by omega⟩
    rw [hx]
    exact h2
theorem cells_f (l : List Int) (hl : Bytes l) (hs : l.length < 140737488355328) : ∃ m : List Int, m.length ≤ 60 ∧ ∀ k, 130 ≤ k → PZ.redactorlaw01_Cells.f k l = some m := by
  obtain ⟨m, h1, h⟩ := cells_l0 l hl hs (min l.length 60) 0 [] (by omega) rfl
  exact ⟨m, h1, fun k hk => h k (by omega)⟩
#print axioms cells_f
end Go.Proofs.YtcofbakhhcgbfaaDoor.Utf

/- Same of the document's answer asks whether two lists are one. Conditions: lists are shorter than Go's bound. -/
namespace Go.Proofs.YtcofbakhhcgbfaaDoor.Utf
open Go.RowKit Go.Proofs.YtcofbakhhcgbfaaDoorW.PrintWords Go.Proofs.YtcofbakhhcgbfaaDoorW.PrintLast Go.Proofs.YtcofbakhhcgbfaaDoorW.PrintMore
set_option linter.unusedVariables false

theorem drops_eq {a b : List Int} (n : Nat) (ha : n < a.length) (hb : n < b.length) : a.drop n = b.drop n ↔ rd a n = rd b n ∧ a.drop (n + 1) = b.drop (n + 1) := by
  rw [drop_rd a n ha, drop_rd b n hb, List.cons.injEq]
/-! ### Same -/
theorem compare_l0 (a b : List Int) (ha : a.length < 140737488355328) : ∀ (d k i : Nat), i + d = a.length → i ≤ b.length → 2 * d + 1 < k →
    ∃ r, PZ.redactorref01_Compare.l0 k a b (i : Int) = some r ∧ (r = 0 ↔ a.drop i = b.drop i) := by
  intro d
  induction d with
  | zero =>
    intro k i hi hb hk
    obtain ⟨k, rfl⟩ : ∃ m, k = m + 2 := ⟨k - 2, by omega⟩
    have e : PZ.redactorref01_Compare.l0 (k + 2) a b (i : Int) = if (a.length : Int) < (b.length : Int) then some (-1) else if (a.length : Int) > (b.length : Int) then some 1 else some 0 := by
      simp only [PZ.redactorref01_Compare.l0]
      rw [if_neg (by omega)]
      simp only [PZ.redactorref01_Compare.j1]
      rw [if_neg (by simp)]
    rw [e, List.drop_eq_nil_of_le (show a.length ≤ i by omega)]
    by_cases h : (a.length : Int) < (b.length : Int)
    · rw [if_pos h]
      refine ⟨_, rfl, by omega, fun x => ?_⟩
      have := congrArg List.length x
      rw [List.length_drop] at this
      simp at this
      omega
    · rw [if_neg h, if_neg (by omega)]
      exact ⟨_, rfl, fun _ => (List.drop_eq_nil_of_le (by omega)).symm, fun _ => rfl⟩
  | succ d ih =>
    intro k i hi hb hk
    obtain ⟨k, rfl⟩ : ∃ m, k = m + 2 := ⟨k - 2, by omega⟩
    by_cases hlt : i < b.length
    · have ew : wrap64 ((i : Int) + 1) = ((i + 1 : Nat) : Int) := by rw [w64 (by omega) (by omega)]; omega
      have e : PZ.redactorref01_Compare.l0 (k + 2) a b (i : Int) = if rd a (i : Int) < rd b (i : Int) then some (-1) else if rd a (i : Int) > rd b (i : Int) then some 1 else PZ.redactorref01_Compare.l0 k a b ((i + 1 : Nat) : Int) := by
        simp only [PZ.redactorref01_Compare.l0]
        rw [if_pos (by omega), decide_eq_true (by omega)]
        simp only [PZ.redactorref01_Compare.j1]
        rw [if_pos trivial, if_pos (by omega), if_pos (by omega), if_pos (by omega), ew]
      have hd := drops_eq (a := a) (b := b) i (by omega) hlt
      rw [e]
      by_cases h1 : rd a (i : Int) < rd b (i : Int)
      · rw [if_pos h1]
        exact ⟨_, rfl, by omega, fun x => by have := (hd.1 x).1; omega⟩
      · rw [if_neg h1]
        by_cases h2 : rd a (i : Int) > rd b (i : Int)
        · rw [if_pos h2]
          exact ⟨_, rfl, by omega, fun x => by have := (hd.1 x).1; omega⟩
        · rw [if_neg h2]
          obtain ⟨r, hr, hq⟩ := ih k (i + 1) (by omega) (by omega) (by omega)
          exact ⟨r, hr, hq.trans ⟨fun x => hd.2 ⟨by omega, x⟩, fun x => (hd.1 x).2⟩⟩
    · have e : PZ.redactorref01_Compare.l0 (k + 2) a b (i : Int) = if (a.length : Int) < (b.length : Int) then some (-1) else if (a.length : Int) > (b.length : Int) then some 1 else some 0 := by
        simp only [PZ.redactorref01_Compare.l0]
        rw [if_pos (by omega), decide_eq_false (by omega)]
        simp only [PZ.redactorref01_Compare.j1]
        rw [if_neg (by simp)]
      rw [e, if_neg (by omega), if_pos (by omega)]
      refine ⟨_, rfl, by omega, fun x => ?_⟩
      have := congrArg List.length x
      rw [List.length_drop, List.length_drop] at this
      omega
theorem same_f (k : Nat) (a b : List Int) (hk : 2 * a.length + 1 < k) (ha : a.length < 140737488355328) : PZ.redactorref01_Same.f k a b = some (decide (a = b)) := by
  obtain ⟨r, hr, hq⟩ := compare_l0 a b ha a.length k 0 (by omega) (by omega) hk
  unfold PZ.redactorref01_Same.f PZ.redactorref01_Compare.f
  rw [show ((0 : Nat) : Int) = 0 from rfl] at hr
  rw [hr, Option.bind_some]
  congr 1
  rw [List.drop_zero, List.drop_zero] at hq
  by_cases h : a = b
  · rw [decide_eq_true h, hq.2 h]; rfl
  · rw [decide_eq_false h]
    exact beq_eq_false_iff_ne.2 (fun e => h (hq.1 e))
#print axioms same_f
end Go.Proofs.YtcofbakhhcgbfaaDoor.Utf

/- The document's answer for codec's Encode, in plain words, and that the program's is the same. Conditions: lists are shorter than a bound. -/
namespace Go.Proofs.YtcofbakhhcgbfaaDoor.Utf
open Go.RowKit Go.Proofs.YtcofbakhhcgbfaaDoorW.PrintWords Go.Proofs.YtcofbakhhcgbfaaDoorW.PrintLast Go.Proofs.YtcofbakhhcgbfaaDoorW.PrintMore
open EC
set_option linter.unusedVariables false

/-! ### Latin-1 -/
def lb (c : Int) : Int := if c < 0 then -1 - c else c
def lat (acc l : List Int) : List Int × Int := if ∀ c ∈ l, c ≤ 255 then (acc ++ l.map lb, 0) else ([], 11)
theorem lat_nil (acc : List Int) : lat acc [] = (acc, 0) := by unfold lat; rw [if_pos (fun c hc => by cases hc)]; simp
theorem lat_cons (acc l : List Int) (c : Int) (h : c ≤ 255) : lat acc (c :: l) = lat (acc ++ [lb c]) l := by
  unfold lat
  by_cases q : ∀ c ∈ l, c ≤ 255
  · rw [if_pos q, if_pos (fun x hx => (List.mem_cons.1 hx).elim (fun e => e ▸ h) (q x))]
    simp
  · rw [if_neg q, if_neg (fun r => q (fun x hx => r x (List.mem_cons_of_mem _ hx)))]
theorem lat_great (acc l : List Int) (c : Int) (h : ¬ c ≤ 255) : lat acc (c :: l) = ([], 11) := if_neg (fun q => h (q c List.mem_cons_self))
theorem lat_c : ∀ (d k : Nat) (acc l : List Int) (i : Nat), i + d = l.length → d < k → acc.length + d < 140737488355328 → l.length < 140737488355328 → (∀ c ∈ l.drop i, Right c) →
    PM.codec_encode1.l0 k acc l (l.length : Int) (i : Int) = some (lat acc (l.drop i)) := by
  intro d
  induction d with
  | zero =>
    intro k acc l i hi hk hl hl2 hr
    obtain ⟨k, rfl⟩ : ∃ m, k = m + 1 := ⟨k - 1, by omega⟩
    have e : l.drop i = [] := List.drop_eq_nil_of_le (by omega)
    simp only [PM.codec_encode1.l0]
    rw [if_neg (by omega), e, lat_nil]
  | succ d ih =>
    intro k acc l i hi hk hl hl2 hr
    obtain ⟨k, rfl⟩ : ∃ m, k = m + 1 := ⟨k - 1, by omega⟩
    have hlt : i < l.length := by omega
    have e := drop_rd l i hlt
    have ew : wrap64 ((i : Int) + 1) = ((i + 1 : Nat) : Int) := by rw [w64 (by omega) (by omega)]; omega
    rw [e] at hr
    have hc := hr _ List.mem_cons_self
    have ht : ∀ c ∈ l.drop (i + 1), Right c := fun c h => hr c (List.mem_cons_of_mem _ h)
    simp only [PM.codec_encode1.l0]
    rw [if_pos (by omega), if_pos (by omega), if_pos (by omega), byte_f _ hc.1, Option.bind_some, e, ew]
    have next : ∀ v : Int, PM.codec_encode1.l0 k (acc ++ [v]) l (l.length : Int) ((i + 1 : Nat) : Int) = some (lat (acc ++ [v]) (l.drop (i + 1))) := fun v => ih k (acc ++ [v]) l (i + 1) (by omega) (by omega) (by rw [List.length_append]; simp only [List.length_cons, List.length_nil]; omega) hl2 ht
    by_cases hn : rd l i < 0
    · rw [if_pos hn, lat_cons _ _ _ (by omega)]
      show (if true = true then _ else _) = _
      rw [if_pos rfl, if_pos (by omega), next]
      unfold lb
      rw [if_pos hn]
    · rw [if_neg hn]
      show (if false = true then _ else _) = _
      rw [if_neg Bool.false_ne_true]
      by_cases hg : rd l i > 255
      · rw [if_pos hg, lat_great _ _ _ (by omega)]
      · have em : rd l i % 256 = rd l i := by omega
        rw [if_neg hg, if_pos (by omega), em, next, lat_cons _ _ _ (by omega)]
        unfold lb
        rw [if_neg hn]
theorem lat_r : ∀ (d k : Nat) (acc l : List Int) (i : Nat), i + d = l.length → 2 * d < k → acc.length + d < 140737488355328 → l.length < 140737488355328 → (∀ c ∈ l.drop i, Right c) →
    PZ.redactorref04_latin.l0 k l acc (i : Int) = some (lat acc (l.drop i)) := by
  intro d
  induction d with
  | zero =>
    intro k acc l i hi hk hl hl2 hr
    obtain ⟨k, rfl⟩ : ∃ m, k = m + 1 := ⟨k - 1, by omega⟩
    have e : l.drop i = [] := List.drop_eq_nil_of_le (by omega)
    simp only [PZ.redactorref04_latin.l0]
    rw [if_neg (by omega), e, lat_nil]
  | succ d ih =>
    intro k acc l i hi hk hl hl2 hr
    obtain ⟨k, rfl⟩ : ∃ m, k = m + 1 + 1 := ⟨k - 2, by omega⟩
    have hlt : i < l.length := by omega
    have e := drop_rd l i hlt
    have ew : wrap64 ((i : Int) + 1) = ((i + 1 : Nat) : Int) := by rw [w64 (by omega) (by omega)]; omega
    rw [e] at hr
    have hc := hr _ List.mem_cons_self
    have ht : ∀ c ∈ l.drop (i + 1), Right c := fun c h => hr c (List.mem_cons_of_mem _ h)
    simp only [PZ.redactorref04_latin.l0]
    rw [if_pos (by omega), if_pos (by omega), ref_byte_f _ hc.1, Option.bind_some, e]
    have next : ∀ v : Int, PZ.redactorref04_latin.l0 k l (acc ++ [v]) ((i + 1 : Nat) : Int) = some (lat (acc ++ [v]) (l.drop (i + 1))) := fun v => ih k (acc ++ [v]) l (i + 1) (by omega) (by omega) (by rw [List.length_append]; simp only [List.length_cons, List.length_nil]; omega) hl2 ht
    by_cases hn : rd l i < 0
    · rw [if_pos hn, lat_cons _ _ _ (by omega)]
      show (if true = true then _ else _) = _
      rw [if_pos rfl]
      simp only [PZ.redactorref04_latin.j1]
      rw [if_neg Bool.false_ne_true, if_pos trivial, if_pos (by omega), ew, next]
      unfold lb
      rw [if_pos hn]
    · rw [if_neg hn]
      show (if false = true then _ else _) = _
      rw [if_neg Bool.false_ne_true]
      simp only [PZ.redactorref04_latin.j1]
      by_cases hg : rd l i > 255
      · rw [decide_eq_true hg, if_pos rfl, lat_great _ _ _ (by omega)]
      · have em : rd l i % 256 = rd l i := by omega
        rw [decide_eq_false hg, if_neg Bool.false_ne_true, if_neg Bool.false_ne_true, if_pos (by omega), if_pos (by omega), if_pos (by omega), ew, em, next, lat_cons _ _ _ (by omega)]
        unfold lb
        rw [if_neg hn]

/-! ### UTF-16 -/
theorem bytes_r (u : Int) (big : Bool) (h : 0 ≤ u ∧ u < 65536) : PZ.redactorref03_bytes.f u big = some (put big u) := by
  have e1 : wrap32 (Int.tdiv u 256) % 256 = u / 256 % 256 := by rw [Int.tdiv_eq_ediv_of_nonneg h.1, w32 (by omega) (by omega)]
  have e2 : Int.tmod u 256 % 256 = u % 256 := by rw [Int.tmod_eq_emod_of_nonneg h.1]; omega
  unfold PZ.redactorref03_bytes.f put
  rw [e1, e2]
  cases big
  · rw [if_neg Bool.false_ne_true, if_neg Bool.false_ne_true]
  · rw [if_pos rfl, if_pos rfl]
theorem enc16_r (big : Bool) : ∀ (d k : Nat) (acc l : List Int) (i : Nat), i + d = l.length → 3 * d < k → acc.length + 4 * d < 140737488355328 → l.length < 140737488355328 → (∀ c ∈ l.drop i, Right c) →
    PZ.redactorref03_Encode.l0 k l big acc (i : Int) = some (acc ++ enc16 big (l.drop i), 0) := by
  intro d
  induction d with
  | zero =>
    intro k acc l i hi hk hl hl2 hr
    obtain ⟨k, rfl⟩ : ∃ m, k = m + 1 := ⟨k - 1, by omega⟩
    have e : l.drop i = [] := List.drop_eq_nil_of_le (by omega)
    simp only [PZ.redactorref03_Encode.l0]
    rw [if_neg (by omega), e, enc16_nil, List.append_nil]
  | succ d ih =>
    intro k acc l i hi hk hl hl2 hr
    obtain ⟨k, rfl⟩ : ∃ m, k = m + 1 + 1 + 1 := ⟨k - 3, by omega⟩
    have hlt : i < l.length := by omega
    have e := drop_rd l i hlt
    have ew : wrap64 ((i : Int) + 1) = ((i + 1 : Nat) : Int) := by rw [w64 (by omega) (by omega)]; omega
    rw [e] at hr
    have hc := hr _ List.mem_cons_self
    obtain ⟨h0, h1, h2⟩ := id hc
    have step : ∀ acc2 : List Int, acc2 = acc ++ seq16 big (rd l i) → PZ.redactorref03_Encode.l0 k l big acc2 ((i + 1 : Nat) : Int) = some (acc ++ enc16 big (rd l i :: l.drop (i + 1)), 0) := by
      rintro acc2 rfl
      have hs := seq16_len big (rd l i)
      rw [ih k (acc ++ seq16 big (rd l i)) l (i + 1) (by omega) (by omega) (by rw [List.length_append]; omega) hl2 (fun c q => hr c (List.mem_cons_of_mem _ q)), enc16_cons, List.append_assoc]
    simp only [PZ.redactorref03_Encode.l0]
    rw [if_pos (by omega), if_pos (by omega), ref_right_f, Option.bind_some, decide_eq_true hc, if_pos rfl, ref_byte_f _ h0, Option.bind_some, Option.bind_some, e]
    have short : ∀ z : List Int, rd l i < 65536 → z = seq16 big (rd l i) → PZ.redactorref03_Encode.j2 (k + 1) l big acc (i : Int) (rd l i) z = some (acc ++ enc16 big (rd l i :: l.drop (i + 1)), 0) := by
      rintro z hz rfl
      have hs := seq16_len big (rd l i)
      simp only [PZ.redactorref03_Encode.j2]
      rw [if_neg (by omega), if_pos (by omega), ew]
      exact step _ rfl
    by_cases hn : rd l i < 0
    · rw [if_pos hn]
      show (if true = true then _ else _) = _
      rw [if_pos rfl]
      simp only [PZ.redactorref03_Encode.j1]
      rw [if_neg Bool.false_ne_true]
      refine short _ (by omega) ?_
      unfold seq16
      rw [if_pos hn]
    · rw [if_neg hn]
      show (if false = true then _ else _) = _
      rw [if_neg Bool.false_ne_true]
      simp only [PZ.redactorref03_Encode.j1]
      by_cases hb : rd l i < 65536
      · rw [decide_eq_true hb, if_pos rfl, bytes_r _ _ (by omega), Option.bind_some]
        refine short _ hb ?_
        unfold seq16
        rw [if_neg hn, if_pos hb]
      · rw [decide_eq_false hb, if_neg Bool.false_ne_true]
        have hs := seq16_len big (rd l i)
        have e1 : wrap32 (55296 + wrap32 (Int.tdiv (wrap32 (rd l i - 65536)) 1024)) = 55296 + (rd l i - 65536) / 1024 := by
          rw [w32 (i := rd l i - 65536) (by omega) (by omega), Int.tdiv_eq_ediv_of_nonneg (by omega), w32 (i := (rd l i - 65536) / 1024) (by omega) (by omega), w32 (by omega) (by omega)]
        have e2 : wrap32 (56320 + Int.tmod (wrap32 (rd l i - 65536)) 1024) = 56320 + (rd l i - 65536) % 1024 := by
          rw [w32 (i := rd l i - 65536) (by omega) (by omega), Int.tmod_eq_emod_of_nonneg (by omega), w32 (by omega) (by omega)]
        simp only [PZ.redactorref03_Encode.j2]
        rw [if_pos (by omega), e1, e2, bytes_r _ _ (by omega), Option.bind_some, bytes_r _ _ (by omega), Option.bind_some, if_pos (by rw [put_len, put_len]; omega), Option.bind_some, if_pos (by rw [List.length_append, put_len, put_len]; omega), ew]
        refine step _ ?_
        unfold seq16
        rw [if_neg hn, if_neg hb]

/-! ### Encode -/
/-- What both say. -/
def encW (a : Int) (b1 b2 : Bool) (l : List Int) : List Int × Int :=
  if ¬ (a = 1 ∨ a = 2 ∨ a = 3) then ([], 1)
  else if a ≠ 2 ∧ (b1 = true ∨ b2 = true) then ([], 1)
  else if l.all good = false then ([], 10)
  else if a = 1 then (enc l, 0)
  else if a = 2 then ((if b2 = true then bom b1 else []) ++ enc16 b1 l, 0)
  else lat [] l
theorem all_right {l : List Int} (h : ¬ l.all good = false) : ∀ c ∈ l, Right c := by
  intro c hc
  have h2 : l.all good = true := by simpa using h
  have := List.all_eq_true.1 h2 c hc
  rw [good_right] at this
  exact of_decide_eq_true this
theorem enc_c (k : Nat) (a : Int) (b1 b2 : Bool) (l : List Int) (hk : l.length + 1 < k) (hl : l.length < 1000000) : PX.codec_Encode.f k a b1 b2 l = some (encW a b1 b2 l) := by
  unfold encW
  by_cases h1 : a = 1 ∨ a = 2 ∨ a = 3
  · rw [if_neg (fun q => q h1)]
    by_cases h2 : a ≠ 2 ∧ (b1 = true ∨ b2 = true)
    · rw [if_pos h2]
      unfold PX.codec_Encode.f
      rw [if_pos (by omega), if_pos h1, if_pos h2]
    · rw [if_neg h2]
      by_cases h3 : l.all good = false
      · rw [if_pos h3]
        unfold PX.codec_Encode.f
        rw [if_pos (by omega), if_pos h1, if_neg h2, if_pos h3]
      · rw [if_neg h3]
        have hr := all_right h3
        rcases h1 with rfl | rfl | rfl
        · rw [if_pos rfl]
          have hb1 : b1 = false := by cases b1; rfl; exact absurd ⟨by decide, .inl rfl⟩ h2
          have hb2 : b2 = false := by cases b2; rfl; exact absurd ⟨by decide, .inr rfl⟩ h2
          subst hb1
          subst hb2
          exact enc_1 k l hr hk (by omega)
        · rw [if_neg (by decide), if_pos rfl]
          exact enc_2 k b1 b2 l hr (by omega) hl
        · rw [if_neg (by decide), if_neg (by decide)]
          unfold PX.codec_Encode.f
          rw [if_pos (by omega), if_pos (.inr (.inr rfl)), if_neg h2, if_neg h3, if_neg (by decide), if_neg (by decide)]
          unfold PM.codec_encode1.f
          have := lat_c l.length k [] l 0 (by omega) (by omega) (by simp; omega) (by omega) (by simpa using hr)
          rw [show ((0 : Nat) : Int) = 0 from rfl] at this
          rw [this]
          rfl
  · rw [if_pos h1]
    unfold PX.codec_Encode.f
    rw [if_pos (by omega), if_neg h1]
/-- What stands behind the loop. -/
theorem enc_r_end (k : Nat) (a : Int) (b1 b2 : Bool) (l : List Int) (i : Int) (h1 : a = 1 ∨ a = 2 ∨ a = 3) (h2 : ¬ (a ≠ 2 ∧ (b1 = true ∨ b2 = true))) (hi : ¬ i < (l.length : Int)) (hr : ∀ c ∈ l, Right c) (hk : 4 * l.length + 10 < k) (hl : l.length < 1000000) :
    PZ.redactorref04_Encode.l0 k i a b1 b2 l = some (if a = 1 then (enc l, 0) else if a = 2 then ((if b2 = true then bom b1 else []) ++ enc16 b1 l, 0) else lat [] l) := by
  obtain ⟨k, rfl⟩ : ∃ m, k = m + 1 + 1 := ⟨k - 2, by omega⟩
  simp only [PZ.redactorref04_Encode.l0]
  rw [if_neg hi]
  rcases h1 with rfl | rfl | rfl
  · rw [if_pos rfl, if_pos rfl, ref_encode_f (k + 1) l (by omega) (by omega), if_pos hr, Option.bind_some]
  · have e16 : ∀ k2 : Nat, 3 * l.length < k2 → PZ.redactorref03_Encode.f k2 l b1 = some (enc16 b1 l, 0) := fun k2 hk2 => by
      unfold PZ.redactorref03_Encode.f
      have := enc16_r b1 l.length k2 [] l 0 (by omega) (by omega) (by simp; omega) (by omega) (by simpa using hr)
      rw [show ((0 : Nat) : Int) = 0 from rfl] at this
      rw [this]
      rfl
    have el : (enc16 b1 l).length ≤ 4 * l.length := by
      clear hk hl hr e16 hi h2
      induction l with
      | nil => simp [enc16_nil]
      | cons c l ih =>
        rw [enc16_cons, List.length_append, List.length_cons]
        have := seq16_len b1 c
        omega
    have h21 : ¬ (2 : Int) = 1 := by decide
    have h23 : ¬ (2 : Int) = 3 := by decide
    rw [if_neg h21, if_neg h23, if_neg h21, if_pos (show (2 : Int) = 2 from rfl)]
    have e2 := e16 k (by omega)
    generalize enc16 b1 l = X at *
    cases b2
    · rw [if_neg Bool.false_ne_true]
      simp only [PZ.redactorref04_Encode.j2]
      rw [if_neg Bool.false_ne_true, if_neg Bool.false_ne_true, e2, Option.bind_some, if_pos (by simp only [List.length_nil]; omega), if_neg Bool.false_ne_true]
    · rw [if_pos rfl]
      simp only [PZ.redactorref04_Encode.j2]
      unfold bom
      cases b1
      · rw [if_neg Bool.false_ne_true, if_pos trivial, if_neg Bool.false_ne_true, Option.bind_some, e2, Option.bind_some, if_pos (by simp only [List.length_cons, List.length_nil]; omega)]
        rfl
      · simp only [if_true, Option.bind_some, e2]
        rw [if_pos (by simp only [List.length_cons, List.length_nil]; omega)]
  · rw [if_neg (by decide), if_pos rfl, if_neg (by decide), if_neg (by decide)]
    have := lat_r l.length (k + 1) [] l 0 (by omega) (by omega) (by simp; omega) (by omega) (by simpa using hr)
    rw [show ((0 : Nat) : Int) = 0 from rfl] at this
    unfold PZ.redactorref04_latin.f
    rw [this, Option.bind_some]
    rfl
theorem enc_r_l0 (a : Int) (b1 b2 : Bool) (l : List Int) (h1 : a = 1 ∨ a = 2 ∨ a = 3) (h2 : ¬ (a ≠ 2 ∧ (b1 = true ∨ b2 = true))) (hl : l.length < 1000000) : ∀ (d k i : Nat), i + d = l.length → (∀ c ∈ l.take i, Right c) → d + 4 * l.length + 10 < k →
    PZ.redactorref04_Encode.l0 k (i : Int) a b1 b2 l = some (encW a b1 b2 l) := by
  intro d
  induction d with
  | zero =>
    intro k i hi hr hk
    have hr2 : ∀ c ∈ l, Right c := by rw [List.take_of_length_le (by omega)] at hr; exact hr
    rw [enc_r_end k a b1 b2 l i h1 h2 (by omega) hr2 (by omega) hl]
    unfold encW
    have hg : ¬ l.all good = false := by rw [all_good hr2]; decide
    have hn : ¬ ¬ (a = 1 ∨ a = 2 ∨ a = 3) := fun q => q h1
    rw [if_neg hn, if_neg h2, if_neg hg]
  | succ d ih =>
    intro k i hi hr hk
    obtain ⟨k, rfl⟩ : ∃ m, k = m + 1 := ⟨k - 1, by omega⟩
    have hlt : i < l.length := by omega
    have ew : wrap64 ((i : Int) + 1) = ((i + 1 : Nat) : Int) := by rw [w64 (by omega) (by omega)]; omega
    have er : rd l i = l[i] := by unfold rd; simp [List.getElem?_eq_getElem hlt]
    simp only [PZ.redactorref04_Encode.l0]
    rw [if_pos (by omega), if_pos (by omega), ref_right_f, Option.bind_some]
    by_cases hc : Right (rd l i)
    · rw [decide_eq_true hc, if_pos rfl, ew]
      refine ih k (i + 1) (by omega) ?_ (by omega)
      rw [List.take_succ_eq_append_getElem hlt]
      intro c q
      rcases List.mem_append.1 q with q | q
      · exact hr c q
      · rw [List.mem_singleton.1 q, ← er]; exact hc
    · rw [decide_eq_false hc, if_neg Bool.false_ne_true]
      unfold encW
      have hg : l.all good = false := by
        rw [List.all_eq_false]
        refine ⟨l[i], List.getElem_mem hlt, ?_⟩
        rw [good_right, ← er, decide_eq_false hc]
        decide
      have hn : ¬ ¬ (a = 1 ∨ a = 2 ∨ a = 3) := fun q => q h1
      rw [if_neg hn, if_neg h2, if_pos hg]
theorem enc_r (k : Nat) (a : Int) (b1 b2 : Bool) (l : List Int) (ha : 0 ≤ a) (hk : 5 * l.length + 12 < k) (hl : l.length < 1000000) : PZ.redactorref04_Encode.f k a b1 b2 l = some (encW a b1 b2 l) := by
  obtain ⟨k, rfl⟩ : ∃ m, k = m + 1 := ⟨k - 1, by omega⟩
  have bad : ∀ x : List Int × Int, x = ([], 1) → PZ.redactorref04_Encode.j0 (k + 1) true a b1 b2 l = some x := fun x hx => by
    simp only [PZ.redactorref04_Encode.j0]
    rw [if_pos trivial, hx]
  have good_ : (a = 1 ∨ a = 2 ∨ a = 3) → ¬ (a ≠ 2 ∧ (b1 = true ∨ b2 = true)) → PZ.redactorref04_Encode.j0 (k + 1) false a b1 b2 l = some (encW a b1 b2 l) := fun h1 h2 => by
    simp only [PZ.redactorref04_Encode.j0]
    rw [if_neg Bool.false_ne_true]
    exact enc_r_l0 a b1 b2 l h1 h2 hl l.length k 0 (by omega) (by simp) (by omega)
  unfold PZ.redactorref04_Encode.f
  by_cases h1 : a < 1
  · rw [if_pos h1]
    exact bad _ (if_pos (show ¬ (a = 1 ∨ a = 2 ∨ a = 3) by omega))
  · rw [if_neg h1]
    by_cases h2 : a > 3
    · rw [if_pos h2]
      exact bad _ (if_pos (show ¬ (a = 1 ∨ a = 2 ∨ a = 3) by omega))
    · rw [if_neg h2]
      by_cases h3 : a = 2
      · rw [if_pos h3]
        exact good_ (by omega) (fun q => q.1 h3)
      · rw [if_neg h3]
        have bad2 : b1 = true ∨ b2 = true → encW a b1 b2 l = ([], 1) := fun q => by
          unfold encW
          rw [if_neg (fun r => r (by omega)), if_pos ⟨h3, q⟩]
        by_cases h4 : b1 = true
        · rw [if_pos h4]
          exact bad _ (bad2 (.inl h4))
        · rw [if_neg h4]
          by_cases h5 : b2 = true
          · rw [h5] at bad bad2 ⊢
            exact bad _ (bad2 (.inr rfl))
          · have e1 : b1 = false := by simpa using h4
            have e2 : b2 = false := by simpa using h5
            subst e1
            subst e2
            exact good_ (by omega) (fun q => by rcases q.2 with q | q <;> cases q)
theorem lat_err (acc l : List Int) : (lat acc l).2 = 0 ∨ (lat acc l).2 = 11 := by
  unfold lat
  split
  · exact .inl rfl
  · exact .inr rfl
theorem encW_err (a : Int) (b1 b2 : Bool) (l : List Int) : 0 ≤ (encW a b1 b2 l).2 ∧ (encW a b1 b2 l).2 ≤ 11 := by
  have c1 : (0 : Int) ≤ 1 ∧ (1 : Int) ≤ 11 := by decide
  have c10 : (0 : Int) ≤ 10 ∧ (10 : Int) ≤ 11 := by decide
  have c0 : (0 : Int) ≤ 0 ∧ (0 : Int) ≤ 11 := by decide
  have := lat_err [] l
  unfold encW
  split
  · exact c1
  · split
    · exact c1
    · split
      · exact c10
      · split
        · exact c0
        · split
          · exact c0
          · omega
theorem encodes_f (k : Nat) (a : Int) (b1 b2 : Bool) (l : List Int) (ha : 0 ≤ a) (hk : 5 * l.length + 12 < k) (hl : l.length < 1000000) : PZ.redactorlaw04_encodes.f k a b1 b2 l = some true := by
  have h := encW_err a b1 b2 l
  unfold PZ.redactorlaw04_encodes.f
  rw [enc_c k a b1 b2 l (by omega) hl, Option.bind_some, enc_r k a b1 b2 l ha hk hl, Option.bind_some, if_pos rfl, w64 (by omega) (by omega), beq_self_eq_true]

/-! ### Named -/
theorem named_r (s : ByteArray) : PZ.redactorref04_Named.f s = some (PX.named s) := by
  have q : ∀ l : List UInt8, s.toList = l ↔ s = ByteArray.mk l.toArray := fun l => by
    rw [ByteArray.toList_eq]
    constructor
    · intro h; rw [← h]
    · intro h; rw [h]
  unfold PZ.redactorref04_Named.f PX.named
  by_cases h1 : s = PX.n1
  · rw [if_pos h1, if_pos ((q _).2 h1)]
  · rw [if_neg h1, if_neg (fun h => h1 ((q _).1 h))]
    by_cases h2 : s = PX.n2
    · rw [if_pos h2, if_pos ((q _).2 h2)]
    · rw [if_neg h2, if_neg (fun h => h2 ((q _).1 h))]
      by_cases h3 : s = PX.n3
      · rw [if_pos h3, if_pos ((q _).2 h3)]
      · rw [if_neg h3, if_neg (fun h => h3 ((q _).1 h))]
#print axioms encodes_f
#print axioms named_r
end Go.Proofs.YtcofbakhhcgbfaaDoor.Utf

/- CodecEncodes, the plain law: Encode, With and Named of the program are the document's answer, for every document up to the law's bound. No conditions beyond the arguments' types. -/
namespace Go.Proofs.YtcofbakhhcgbfaaDoor.Pure
open Go.RowKit Go.Proofs.YtcofbakhhcgbfaaDoorW.PrintWords Go.Proofs.YtcofbakhhcgbfaaDoorW.PrintLast Go.Proofs.YtcofbakhhcgbfaaDoor.Utf
set_option linter.unusedVariables false

theorem enc_same (k : Nat) (a : Int) (b1 b2 : Bool) (m : List Int) (hk : 2 * m.length + 1 < k) (hm : m.length < 140737488355328) : PZ.redactorref04_Same.f k a b1 b2 m a b1 b2 m = some true := by
  unfold PZ.redactorref04_Same.f
  rw [if_pos rfl, if_pos (beq_self_eq_true _), if_pos (beq_self_eq_true _), same_f k m m hk hm, decide_eq_true rfl, Option.bind_some]
theorem enc_j0 (k : Nat) (a : Int) (b1 b2 : Bool) (l c : List Int) (e : Int) (big bm : Bool) (s : ByteArray) (ha : 0 ≤ a) (hC : Bytes c) (hc : c.length < 140737488355328) (he : 0 ≤ e) (hl : l.length ≤ 200) (hk : 2000 < k) :
    PZ.redactorlaw04_CodecEncodes.j0 (k + 1) c e big bm s false a b1 b2 l = some true := by
  obtain ⟨m, hm, hm2⟩ := cells_f c hC hc
  have e5 : 0 ≤ Int.tmod e 5 := by rw [Int.tmod_eq_emod_of_nonneg he]; omega
  have e4 : Int.tmod e 4 = e % 4 := Int.tmod_eq_emod_of_nonneg he
  simp only [PZ.redactorlaw04_CodecEncodes.j0]
  rw [if_neg Bool.false_ne_true, hm2 k (by omega), Option.bind_some, encodes_f k a b1 b2 l ha (by omega) (by omega), Option.bind_some, with_f a b1 b2 l m (by omega), Option.bind_some]
  rw [enc_same k a b1 b2 m (by omega) (by omega), Option.bind_some, if_pos rfl, if_pos rfl, encodes_f k _ big bm m e5 (by omega) (by omega), Option.bind_some, if_pos rfl]
  rw [named_f, Option.bind_some, named_r, Option.bind_some, if_pos rfl]
  simp only [Option.bind_some]
  rw [e4, if_pos (by omega), if_pos (by simp only [List.length_cons, List.length_nil]; omega), named_f, Option.bind_some, if_pos (by simp only [List.length_cons, List.length_nil]; omega), named_r, Option.bind_some, beq_self_eq_true]
theorem CodecEncodes (a : Int) (b1 b2 : Bool) (l c : List Int) (e : Int) (big bm : Bool) (s : ByteArray) (ha : 0 ≤ a) (hC : Bytes c) (hc : c.length < 140737488355328) (he : 0 ≤ e) : ∃ k, PZ.redactorlaw04_CodecEncodes.f k a b1 b2 l c e big bm s = some true := by
  refine ⟨3000, ?_⟩
  have out : PZ.redactorlaw04_CodecEncodes.j0 3000 c e big bm s true a b1 b2 l = some true := by
    simp only [PZ.redactorlaw04_CodecEncodes.j0]
    rw [if_pos trivial, known_x 2999 (by omega), Option.bind_some]
  unfold PZ.redactorlaw04_CodecEncodes.f
  by_cases h : (l.length : Int) > 200
  · rw [if_pos h, out]
  · rw [if_neg h]
    by_cases h2 : (s.size : Int) > 100
    · rw [if_pos h2, out]
    · rw [if_neg h2, known_x 3000 (by omega), Option.bind_some]
      exact enc_j0 2999 a b1 b2 l c e big bm s ha hC hc he (by omega) (by omega)
#print axioms CodecEncodes
end Go.Proofs.YtcofbakhhcgbfaaDoor.Pure
