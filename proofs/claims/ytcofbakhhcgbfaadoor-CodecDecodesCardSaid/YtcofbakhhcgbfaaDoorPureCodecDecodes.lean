/- The bytes that choices say (redactorlaw02.Bytes, redactorlaw03.Bytes, redactorlaw04.Bytes): bytes, no more than 62, the same for all rounds. No conditions. -/
import Derived.Test.YtcofbakhhcgbfaaDoorPureKnownK
import Derived.Test.YtcofbakhhcgbfaaDoorPY5
import Derived.Test.YtcofbakhhcgbfaaDoorPY1
import Derived.Test.YtcofbakhhcgbfaaDoorPY2
import Derived.Test.YtcofbakhhcgbfaaDoorPY3
import Derived.Test.YtcofbakhhcgbfaaDoorPY4
namespace Go.Proofs.YtcofbakhhcgbfaaDoor.Utf
open Go.RowKit Go.Proofs.YtcofbakhhcgbfaaDoorW.PrintWords Go.Proofs.YtcofbakhhcgbfaaDoorW.PrintLast Go.Proofs.YtcofbakhhcgbfaaDoorW.PrintMore
set_option linter.unusedVariables false

theorem rd_bytes {l : List Int} (h : Bytes l) (i : Int) : 0 ≤ rd l i ∧ rd l i < 256 := by
  unfold rd
  rw [List.getD_eq_getElem?_getD]
  by_cases hi : i.toNat < l.length
  · rw [List.getElem?_eq_getElem hi]; exact h _ (List.getElem_mem hi)
  · rw [List.getElem?_eq_none (by omega)]; simp
def tab2 : List Int := [0, 65, 127, 128, 169, 191, 192, 193, 194, 195, 223, 224, 226, 130, 172, 237, 160, 159, 239, 240, 152, 244, 143, 144, 245, 255, 10]
theorem bytes2_l0 (l : List Int) (hl : Bytes l) (hs : l.length < 140737488355328) : ∀ (d i : Nat) (acc : List Int), i + d = min l.length 60 → Bytes acc → acc.length = i →
    ∃ m, Bytes m ∧ m.length ≤ 60 ∧ ∀ k, d < k → PY.redactorlaw02_Bytes.l0 k l tab2 acc (i : Int) = some m := by
  intro d
  induction d with
  | zero =>
    intro i acc hi ha hi2
    refine ⟨acc, ha, by omega, fun k hk => ?_⟩
    obtain ⟨k, rfl⟩ : ∃ m, k = m + 1 := ⟨k - 1, by omega⟩
    simp only [PY.redactorlaw02_Bytes.l0]
    by_cases h : (i : Int) < (l.length : Int)
    · rw [if_pos h, if_neg (by omega)]
    · rw [if_neg h]
  | succ d ih =>
    intro i acc hi ha hi2
    have hb := rd_bytes hl (i : Int)
    have et : (tab2.length : Int) = 27 := rfl
    have em : Int.tmod (wrap64 (rd l i)) (tab2.length : Int) = rd l i % 27 := by
      rw [w64 (by omega) (by omega), et, Int.tmod_eq_emod_of_nonneg (by omega)]
    have ht : Bytes tab2 := by unfold Bytes tab2; decide
    obtain ⟨m, hm, hm2, h⟩ := ih (i + 1) (acc ++ [rd tab2 (rd l i % 27)]) (by omega) (ha.append (Bytes.cons (rd_bytes ht _).1 (rd_bytes ht _).2 Bytes.nil)) (by rw [List.length_append]; simp; omega)
    refine ⟨m, hm, hm2, fun k hk => ?_⟩
    obtain ⟨k, rfl⟩ : ∃ m, k = m + 1 := ⟨k - 1, by omega⟩
    have hk2 := h k (by omega)
    have ew : wrap64 ((i : Int) + 1) = ((i + 1 : Nat) : Int) := by rw [w64 (by omega) (by omega)]; omega
    simp only [PY.redactorlaw02_Bytes.l0]
    rw [em, et, ew]
    clear em et ht h ew hm hm2 ih ha hl
    have hb1 := hb.1
    clear hb
    rw [if_pos (by omega), if_pos (by omega), if_pos (by omega), if_neg (by omega), if_pos (by omega), if_pos (by omega), if_pos (by omega)]
    exact hk2
/-- The choices' bytes. -/
theorem bytes2_f (l : List Int) (hl : Bytes l) (hs : l.length < 140737488355328) : ∃ m, Bytes m ∧ m.length ≤ 60 ∧ ∀ k, 60 < k → PY.redactorlaw02_Bytes.f k l = some m := by
  obtain ⟨m, h1, h2, h⟩ := bytes2_l0 l hl hs (min l.length 60) 0 [] (by omega) Bytes.nil rfl
  exact ⟨m, h1, h2, fun k hk => h k (by omega)⟩
def tab3 : List Int := [0, 65, 215, 216, 219, 220, 223, 224, 255, 254, 61, 10]
theorem bytes3_l0 (l : List Int) (hl : Bytes l) (hs : l.length < 140737488355328) : ∀ (d i : Nat) (acc : List Int), i + d = min l.length 60 → Bytes acc → acc.length = i →
    ∃ m, Bytes m ∧ m.length ≤ 60 ∧ ∀ k, d < k → PY.redactorlaw03_Bytes.l0 k l tab3 acc (i : Int) = some m := by
  intro d
  induction d with
  | zero =>
    intro i acc hi ha hi2
    refine ⟨acc, ha, by omega, fun k hk => ?_⟩
    obtain ⟨k, rfl⟩ : ∃ m, k = m + 1 := ⟨k - 1, by omega⟩
    simp only [PY.redactorlaw03_Bytes.l0]
    by_cases h : (i : Int) < (l.length : Int)
    · rw [if_pos h, if_neg (by omega)]
    · rw [if_neg h]
  | succ d ih =>
    intro i acc hi ha hi2
    have hb := rd_bytes hl (i : Int)
    have et : (tab3.length : Int) = 12 := rfl
    have em : Int.tmod (wrap64 (rd l i)) (tab3.length : Int) = rd l i % 12 := by
      rw [w64 (by omega) (by omega), et, Int.tmod_eq_emod_of_nonneg (by omega)]
    have ht : Bytes tab3 := by unfold Bytes tab3; decide
    obtain ⟨m, hm, hm2, h⟩ := ih (i + 1) (acc ++ [rd tab3 (rd l i % 12)]) (by omega) (ha.append (Bytes.cons (rd_bytes ht _).1 (rd_bytes ht _).2 Bytes.nil)) (by rw [List.length_append]; simp; omega)
    refine ⟨m, hm, hm2, fun k hk => ?_⟩
    obtain ⟨k, rfl⟩ : ∃ m, k = m + 1 := ⟨k - 1, by omega⟩
    have hk2 := h k (by omega)
    have ew : wrap64 ((i : Int) + 1) = ((i + 1 : Nat) : Int) := by rw [w64 (by omega) (by omega)]; omega
    simp only [PY.redactorlaw03_Bytes.l0]
    rw [em, et, ew]
    clear em et ht h ew hm hm2 ih ha hl
    have hb1 := hb.1
    clear hb
    rw [if_pos (by omega), if_pos (by omega), if_pos (by omega), if_neg (by omega), if_pos (by omega), if_pos (by omega), if_pos (by omega)]
    exact hk2
/-- The choices' bytes. -/
theorem bytes3_f (l : List Int) (hl : Bytes l) (hs : l.length < 140737488355328) : ∃ m, Bytes m ∧ m.length ≤ 60 ∧ ∀ k, 60 < k → PY.redactorlaw03_Bytes.f k l = some m := by
  obtain ⟨m, h1, h2, h⟩ := bytes3_l0 l hl hs (min l.length 60) 0 [] (by omega) Bytes.nil rfl
  exact ⟨m, h1, h2, fun k hk => h k (by omega)⟩

theorem bytes_be : Bytes [254, 255] := by intro x hx; simp at hx; omega
theorem bytes_le' : Bytes [255, 254] := by intro x hx; simp at hx; omega
theorem bytes4_f (l : List Int) (a : Int) (hl : Bytes l) (hs : l.length < 140737488355328) : ∃ m, Bytes m ∧ m.length ≤ 62 ∧ ∀ k, 60 < k → PY.redactorlaw04_Bytes.f k l a = some m := by
  obtain ⟨m2, a1, a2, a3⟩ := bytes2_f l hl hs
  obtain ⟨m3, b1, b2, b3⟩ := bytes3_f l hl hs
  unfold PY.redactorlaw04_Bytes.f
  by_cases h0 : Int.tmod a 4 = 0
  · exact ⟨m2, a1, by omega, fun k hk => by rw [if_pos h0, a3 k hk]; rfl⟩
  · by_cases h1 : Int.tmod a 4 = 1
    · exact ⟨[254, 255] ++ m3, bytes_be.append b1, by rw [List.length_append]; simp only [List.length_cons, List.length_nil]; omega, fun k hk => by
        rw [if_neg h0, if_pos h1, b3 k hk]
        simp only [Option.bind_some]
        rw [if_pos (by simp only [List.length_cons, List.length_nil]; omega)]⟩
    · by_cases h2 : Int.tmod a 4 = 2
      · exact ⟨[255, 254] ++ m3, bytes_le'.append b1, by rw [List.length_append]; simp only [List.length_cons, List.length_nil]; omega, fun k hk => by
          rw [if_neg h0, if_neg h1, if_pos h2, b3 k hk]
          simp only [Option.bind_some]
          rw [if_pos (by simp only [List.length_cons, List.length_nil]; omega)]⟩
      · exact ⟨m3, b1, by omega, fun k hk => by rw [if_neg h0, if_neg h1, if_neg h2, b3 k hk]; rfl⟩
#print axioms bytes4_f
end Go.Proofs.YtcofbakhhcgbfaaDoor.Utf

/- Same of the document's answer asks whether two lists are one. Conditions: lists are shorter than Go's bound. -/
namespace Go.Proofs.YtcofbakhhcgbfaaDoor.Utf
open Go.RowKit Go.Proofs.YtcofbakhhcgbfaaDoorW.PrintWords Go.Proofs.YtcofbakhhcgbfaaDoorW.PrintLast Go.Proofs.YtcofbakhhcgbfaaDoorW.PrintMore
set_option linter.unusedVariables false

theorem drops_eq {a b : List Int} (n : Nat) (ha : n < a.length) (hb : n < b.length) : a.drop n = b.drop n ↔ rd a n = rd b n ∧ a.drop (n + 1) = b.drop (n + 1) := by
  rw [drop_rd a n ha, drop_rd b n hb, List.cons.injEq]
/-! ### Same -/
theorem compare_l0 (a b : List Int) (ha : a.length < 140737488355328) : ∀ (d k i : Nat), i + d = a.length → i ≤ b.length → 2 * d + 1 < k →
    ∃ r, PY.redactorref01_Compare.l0 k a b (i : Int) = some r ∧ (r = 0 ↔ a.drop i = b.drop i) := by
  intro d
  induction d with
  | zero =>
    intro k i hi hb hk
    obtain ⟨k, rfl⟩ : ∃ m, k = m + 2 := ⟨k - 2, by omega⟩
    have e : PY.redactorref01_Compare.l0 (k + 2) a b (i : Int) = if (a.length : Int) < (b.length : Int) then some (-1) else if (a.length : Int) > (b.length : Int) then some 1 else some 0 := by
      simp only [PY.redactorref01_Compare.l0]
      rw [if_neg (by omega)]
      simp only [PY.redactorref01_Compare.j1]
      rw [if_neg (by simp)]
    rw [e, List.drop_eq_nil_of_le (show a.length ≤ i by omega)]
    by_cases h : (a.length : Int) < (b.length : Int)
    · rw [if_pos h]
      refine ⟨_, rfl, by omega, fun x => ?_⟩
      have := congrArg List.length x
      rw [List.length_drop] at this
      simp at this
      omega
    · rw [if_neg h, if_neg (by omega)]
      exact ⟨_, rfl, fun _ => (List.drop_eq_nil_of_le (by omega)).symm, fun _ => rfl⟩
  | succ d ih =>
    intro k i hi hb hk
    obtain ⟨k, rfl⟩ : ∃ m, k = m + 2 := ⟨k - 2, by omega⟩
    by_cases hlt : i < b.length
    · have ew : wrap64 ((i : Int) + 1) = ((i + 1 : Nat) : Int) := by rw [w64 (by omega) (by omega)]; omega
      have e : PY.redactorref01_Compare.l0 (k + 2) a b (i : Int) = if rd a (i : Int) < rd b (i : Int) then some (-1) else if rd a (i : Int) > rd b (i : Int) then some 1 else PY.redactorref01_Compare.l0 k a b ((i + 1 : Nat) : Int) := by
        simp only [PY.redactorref01_Compare.l0]
        rw [if_pos (by omega), decide_eq_true (by omega)]
        simp only [PY.redactorref01_Compare.j1]
        rw [if_pos trivial, if_pos (by omega), if_pos (by omega), if_pos (by omega), ew]
      have hd := drops_eq (a := a) (b := b) i (by omega) hlt
      rw [e]
      by_cases h1 : rd a (i : Int) < rd b (i : Int)
      · rw [if_pos h1]
        exact ⟨_, rfl, by omega, fun x => by have := (hd.1 x).1; omega⟩
      · rw [if_neg h1]
        by_cases h2 : rd a (i : Int) > rd b (i : Int)
        · rw [if_pos h2]
          exact ⟨_, rfl, by omega, fun x => by have := (hd.1 x).1; omega⟩
        · rw [if_neg h2]
          obtain ⟨r, hr, hq⟩ := ih k (i + 1) (by omega) (by omega) (by omega)
          exact ⟨r, hr, hq.trans ⟨fun x => hd.2 ⟨by omega, x⟩, fun x => (hd.1 x).2⟩⟩
    · have e : PY.redactorref01_Compare.l0 (k + 2) a b (i : Int) = if (a.length : Int) < (b.length : Int) then some (-1) else if (a.length : Int) > (b.length : Int) then some 1 else some 0 := by
        simp only [PY.redactorref01_Compare.l0]
        rw [if_pos (by omega), decide_eq_false (by omega)]
        simp only [PY.redactorref01_Compare.j1]
        rw [if_neg (by simp)]
      rw [e, if_neg (by omega), if_pos (by omega)]
      refine ⟨_, rfl, by omega, fun x => ?_⟩
      have := congrArg List.length x
      rw [List.length_drop, List.length_drop] at this
      omega
theorem same_f (k : Nat) (a b : List Int) (hk : 2 * a.length + 1 < k) (ha : a.length < 140737488355328) : PY.redactorref01_Same.f k a b = some (decide (a = b)) := by
  obtain ⟨r, hr, hq⟩ := compare_l0 a b ha a.length k 0 (by omega) (by omega) hk
  unfold PY.redactorref01_Same.f PY.redactorref01_Compare.f
  rw [show ((0 : Nat) : Int) = 0 from rfl] at hr
  rw [hr, Option.bind_some]
  congr 1
  rw [List.drop_zero, List.drop_zero] at hq
  by_cases h : a = b
  · rw [decide_eq_true h, hq.2 h]; rfl
  · rw [decide_eq_false h]
    exact beq_eq_false_iff_ne.2 (fun e => h (hq.1 e))
#print axioms same_f
end Go.Proofs.YtcofbakhhcgbfaaDoor.Utf

/- The document's answer for UTF-8: Decode is 'dec8'. Conditions: bytes are bytes, lists are shorter than Go's bound. -/
namespace Go.Proofs.YtcofbakhhcgbfaaDoor.Utf
open Go.RowKit Go.Proofs.YtcofbakhhcgbfaaDoorW.PrintWords Go.Proofs.YtcofbakhhcgbfaaDoorW.PrintLast Go.Proofs.YtcofbakhhcgbfaaDoorW.PrintMore
set_option linter.unusedVariables false

/-! ### Bytes as a string -/
theorem bt_f {l : List Int} (h : Bytes l) (i : Int) : bt (strOfNums l) i = rd l i := by
  unfold bt
  by_cases hi : i.toNat < (strOfNums l).size
  · rw [dif_pos hi]
    have hi2 : i.toNat < l.length := by rw [strOfNums_size] at hi; exact hi
    have e : (strOfNums l)[i.toNat]'hi = UInt8.ofNat (l[i.toNat]).toNat := by
      show ((l.map fun n => UInt8.ofNat n.toNat).toArray)[i.toNat]'(by simpa using hi2) = _
      simp
    have hx := h l[i.toNat] (List.getElem_mem hi2)
    rw [e, UInt8.toNat_ofNat']
    unfold rd
    rw [List.getD_eq_getElem?_getD, List.getElem?_eq_getElem hi2]
    simp only [Option.getD_some]
    omega
  · rw [dif_neg hi]
    unfold rd
    rw [strOfNums_size] at hi
    rw [List.getD_eq_getElem?_getD, List.getElem?_eq_none (by omega)]
    rfl
theorem extract_f (l : List Int) (i : Nat) : (strOfNums l).extract i (strOfNums l).size = strOfNums (l.drop i) := by
  apply ByteArray.ext
  apply Array.toList_inj.1
  rw [ByteArray.data_extract, Array.toList_extract, strOfNums_data, strOfNums_data, strOfNums_size]
  simp [List.map_drop]
  rw [List.take_of_length_le (by simp)]
theorem toList_nil (l : List Int) : (strOfNums l).toList = ([] : List UInt8) ↔ l = [] := by
  rw [ByteArray.toList_eq, strOfNums_data]
  simp

/-! ### First -/
theorem ref_right_f (c : Int) : PY.redactorref01_Right.f c = some (decide (Right c)) := by
  unfold PY.redactorref01_Right.f
  by_cases h1 : c ≥ -256
  · rw [if_pos h1]
    by_cases h2 : c < 55296
    · rw [if_pos h2, decide_eq_true (show Right c by unfold Right; omega)]
    · rw [if_neg h2]
      by_cases h3 : c > 57343
      · rw [if_pos h3]
        congr 1
        rw [decide_eq_decide]
        unfold Right
        omega
      · rw [if_neg h3, decide_eq_false (show ¬ Right c by unfold Right; omega)]
  · rw [if_neg h1, if_neg (by omega), decide_eq_false (show ¬ Right c by unfold Right; omega)]
theorem ref_escape_f (b : Int) (h0 : 0 ≤ b) (h1 : b < 256) : PY.redactorref01_Escape.f b = some (-1 - b) := by
  unfold PY.redactorref01_Escape.f
  rw [w32 (i := b) (by omega) (by omega), w32 (by omega) (by omega)]

def needN (b : Int) : Int := if b < 128 then 1 else if 194 ≤ b ∧ b ≤ 223 then 2 else if 224 ≤ b ∧ b ≤ 239 then 3 else if 240 ≤ b ∧ b ≤ 244 then 4 else 0
theorem need_f (k : Nat) (b : Int) (hk : 2 ≤ k) : PY.redactorref01_need.f k b = some (needN b) := by
  obtain ⟨k, rfl⟩ : ∃ m, k = m + 2 := ⟨k - 2, by omega⟩
  have ej1 : ∀ v : Bool, PY.redactorref01_need.j1 (k + 1) b v = some (if v = true then 3 else if 240 ≤ b ∧ b ≤ 244 then 4 else 0) := by
    intro v
    simp only [PY.redactorref01_need.j1]
    cases v with
    | true => rw [if_pos rfl, if_pos rfl]
    | false =>
      rw [if_neg Bool.false_ne_true, if_neg Bool.false_ne_true]
      by_cases h : b ≥ 240
      · rw [if_pos h]
        by_cases h2 : b ≤ 244
        · rw [if_pos h2, if_pos ⟨h, h2⟩]
        · rw [if_neg h2, if_neg (by omega)]
      · rw [if_neg h, if_neg (by omega)]
  have ej0 : ∀ v : Bool, PY.redactorref01_need.j0 (k + 2) b v = some (if v = true then 2 else if 224 ≤ b ∧ b ≤ 239 then 3 else if 240 ≤ b ∧ b ≤ 244 then 4 else 0) := by
    intro v
    simp only [PY.redactorref01_need.j0]
    cases v with
    | true => rw [if_pos rfl, if_pos rfl]
    | false =>
      rw [if_neg Bool.false_ne_true, if_neg Bool.false_ne_true]
      by_cases h : b ≥ 224
      · rw [if_pos h, ej1]
        by_cases h2 : b ≤ 239
        · rw [decide_eq_true h2, if_pos rfl, if_pos ⟨h, h2⟩]
        · rw [decide_eq_false h2, if_neg Bool.false_ne_true, if_neg (show ¬ (224 ≤ b ∧ b ≤ 239) by omega)]
      · rw [if_neg h, ej1, if_neg Bool.false_ne_true, if_neg (show ¬ (224 ≤ b ∧ b ≤ 239) by omega)]
  unfold PY.redactorref01_need.f needN
  by_cases h : b < 128
  · rw [if_pos h, if_pos h]
  · rw [if_neg h, if_neg h]
    by_cases h1 : b ≥ 194
    · rw [if_pos h1, ej0]
      by_cases h2 : b ≤ 223
      · rw [decide_eq_true h2, if_pos rfl, if_pos ⟨h1, h2⟩]
      · rw [decide_eq_false h2, if_neg Bool.false_ne_true, if_neg (show ¬ (194 ≤ b ∧ b ≤ 223) by omega)]
    · rw [if_neg h1, ej0, if_neg Bool.false_ne_true, if_neg (show ¬ (194 ≤ b ∧ b ≤ 223) by omega)]

theorem first_ok (k : Nat) (s : ByteArray) (n c i : Int) (h0 : 0 ≤ i) (h1 : i < n) (h2 : i < (s.size : Int)) (h3 : i < 10) (b0 : ¬ bt s i < 128) (b1 : ¬ bt s i > 191) (c0 : 0 ≤ c) (c1 : c < 1048576) :
    PY.redactorref01_First.l0 (k + 1) s n c i = PY.redactorref01_First.l0 k s n (c * 64 + bt s i % 64) (i + 1) := by
  simp only [PY.redactorref01_First.l0]
  rw [if_pos h1, if_pos h0, if_pos h2, if_neg b0, if_neg b1, Int.tmod_eq_emod_of_nonneg (by omega), w32 (i := c * 64) (by omega) (by omega), w32 (i := bt s i % 64) (by omega) (by omega), w32 (by omega) (by omega), w64 (by omega) (by omega)]
theorem first_bad (k : Nat) (s : ByteArray) (n c i : Int) (h0 : 0 ≤ i) (h1 : i < n) (h2 : i < (s.size : Int)) (b0 : bt s i < 128 ∨ bt s i > 191) :
    PY.redactorref01_First.l0 (k + 1) s n c i = some (0, 0) := by
  simp only [PY.redactorref01_First.l0]
  rw [if_pos h1, if_pos h0, if_pos h2]
  by_cases h : bt s i < 128
  · rw [if_pos h]
  · rw [if_neg h, if_pos (by omega)]
theorem first_end (k : Nat) (s : ByteArray) (n c : Int) (h0 : 1 ≤ n) (h1 : n ≤ 4) :
    PY.redactorref01_First.l0 (k + 1) s n c n = some (if c < rd [0, 0, 128, 2048, 65536] n then (0, 0) else if Right c then (c, n) else (0, 0)) := by
  simp only [PY.redactorref01_First.l0]
  rw [if_neg (by omega), Option.bind_some, if_pos (by omega), if_pos (by simp; omega)]
  by_cases h : c < rd [0, 0, 128, 2048, 65536] n
  · rw [if_pos h, if_pos h]
  · rw [if_neg h, if_neg h, ref_right_f, Option.bind_some]
    by_cases hr : Right c
    · rw [decide_eq_true hr, if_pos rfl, if_pos hr]
    · rw [decide_eq_false hr, if_neg (by simp), if_neg hr]
theorem first_j0 (k : Nat) (s : ByteArray) (n x : Int) (h0 : 2 ≤ n) (h1 : n ≤ 4) (hs : n ≤ (s.size : Int)) (hx : bt s 0 = x) (x0 : 0 ≤ x) (x1 : x < 256) :
    PY.redactorref01_First.j0 (k + 2) s n false = PY.redactorref01_First.l0 k s n (x % (2 ^ (7 - n).toNat)) 1 := by
  have e : Int.tmod (wrap32 x) (shl .i32 1 (IntKind.u64.wrap (wrap64 (7 - n)))) = x % (2 ^ (7 - n).toNat) ∧ 0 ≤ IntKind.u64.wrap (wrap64 (7 - n)) ∧ ¬ shl .i32 1 (IntKind.u64.wrap (wrap64 (7 - n))) = 0 := by
    rw [w32 (by omega) (by omega), Int.tmod_eq_emod_of_nonneg x0]
    have h : n = 2 ∨ n = 3 ∨ n = 4 := by omega
    rcases h with rfl | rfl | rfl
    · have e2 : shl .i32 1 (IntKind.u64.wrap (wrap64 (7 - 2))) = 32 := by rw [w64 (by omega) (by omega)]; decide
      rw [e2]
      exact ⟨rfl, by rw [w64 (by omega) (by omega)]; decide, by decide⟩
    · have e2 : shl .i32 1 (IntKind.u64.wrap (wrap64 (7 - 3))) = 16 := by rw [w64 (by omega) (by omega)]; decide
      rw [e2]
      exact ⟨rfl, by rw [w64 (by omega) (by omega)]; decide, by decide⟩
    · have e2 : shl .i32 1 (IntKind.u64.wrap (wrap64 (7 - 4))) = 8 := by rw [w64 (by omega) (by omega)]; decide
      rw [e2]
      exact ⟨rfl, by rw [w64 (by omega) (by omega)]; decide, by decide⟩
  simp only [PY.redactorref01_First.j0]
  rw [if_neg (by simp), if_pos (by omega), if_pos (by omega), if_pos e.2.1, if_neg e.2.2, hx, e.1]
  simp only [PY.redactorref01_First.j1]

/-- The document's first scalar is the library's, or both say that there is none. -/
theorem first_f (k : Nat) (x : Int) (t : List Int) (h : Bytes (x :: t)) (hk : 8 ≤ k) :
    PY.redactorref01_First.f k (strOfNums (x :: t)) = some (if decP (x :: t) = (65533, 1) then (0, 0) else decP (x :: t)) := by
  obtain ⟨b0, b1, b2, b3, e0, e1, e2, e3, l0, l1, l2, l3⟩ := rds h
  have hd : decP (x :: t) = (((Lib.decodeN (t.length + 1) b0 b1 b2 b3).1 : Int), ((Lib.decodeN (t.length + 1) b0 b1 b2 b3).2 : Int)) := by
    rw [decP_cons, e1, e2, e3, e0]
    simp only [Int.toNat_natCast]
  have hsz : ((strOfNums (x :: t)).size : Int) = (t.length : Int) + 1 := by rw [strOfNums_size]; simp
  have t0 : bt (strOfNums (x :: t)) 0 = b0 := by rw [bt_f h, rd0, e0]
  have t1 : bt (strOfNums (x :: t)) 1 = b1 := by rw [bt_f h, e1]
  have t2 : bt (strOfNums (x :: t)) 2 = b2 := by rw [bt_f h, e2]
  have t3 : bt (strOfNums (x :: t)) 3 = b3 := by rw [bt_f h, e3]
  obtain ⟨k, rfl⟩ : ∃ m, k = m + 8 := ⟨k - 8, by omega⟩
  unfold PY.redactorref01_First.f
  rw [if_neg (fun e => by have := (toList_nil _).1 e; cases this), if_pos (by omega), need_f _ _ (by omega), Option.bind_some, t0, hd]
  generalize hsE : strOfNums (x :: t) = s at *
  have err : Lib.decodeN (t.length + 1) b0 b1 b2 b3 = (65533, 1) → some ((0 : Int), (0 : Int)) = some (if ((((Lib.decodeN (t.length + 1) b0 b1 b2 b3).1 : Int), ((Lib.decodeN (t.length + 1) b0 b1 b2 b3).2 : Int)) : Int × Int) = (65533, 1) then (0, 0) else ((((Lib.decodeN (t.length + 1) b0 b1 b2 b3).1 : Int), ((Lib.decodeN (t.length + 1) b0 b1 b2 b3).2 : Int)))) := by
    intro hh
    rw [hh]
    rfl
  have val : ∀ c w : Nat, Lib.decodeN (t.length + 1) b0 b1 b2 b3 = (c, w) → ¬ (w = 1 ∧ c = 65533) → some ((c : Int), (w : Int)) = some (if ((((Lib.decodeN (t.length + 1) b0 b1 b2 b3).1 : Int), ((Lib.decodeN (t.length + 1) b0 b1 b2 b3).2 : Int)) : Int × Int) = (65533, 1) then (0, 0) else ((((Lib.decodeN (t.length + 1) b0 b1 b2 b3).1 : Int), ((Lib.decodeN (t.length + 1) b0 b1 b2 b3).2 : Int)))) := by
    intro c w hh hn
    rw [hh, if_neg (fun e => by injection e with e5 e6; omega)]
  clear hd e1 e2 e3 h hsE
  unfold needN
  by_cases c1 : (b0 : Int) < 128
  · rw [if_pos c1, if_neg (by omega), decide_eq_false (by omega)]
    have e : PY.redactorref01_First.j0 (k + 8) s 1 false = PY.redactorref01_First.l0 (k + 6) s 1 b0 1 := by
      simp only [PY.redactorref01_First.j0]
      rw [if_neg (by simp), if_pos (by omega), if_neg (by omega), t0, w32 (by omega) (by omega)]
      simp only [PY.redactorref01_First.j1]
    rw [e, first_end (k + 5) s 1 _ (by omega) (by omega), if_neg (by show ¬ (b0 : Int) < 0; omega), if_pos (by unfold Right; omega)]
    exact val b0 1 (by unfold Lib.decodeN; rw [if_pos (by omega)]) (by omega)
  · rw [if_neg c1]
    by_cases c2 : 194 ≤ (b0 : Int) ∧ (b0 : Int) ≤ 223
    · rw [if_pos c2, if_neg (by omega)]
      by_cases hs2 : (2 : Int) > (s.size : Int)
      · rw [decide_eq_true hs2]
        simp only [PY.redactorref01_First.j0]
        rw [if_pos trivial]
        refine err ?_
        unfold Lib.decodeN
        rw [if_neg (by omega), if_neg (by omega), if_neg (by omega), if_neg (by omega)]
      · rw [decide_eq_false hs2, first_j0 (k + 6) s 2 b0 (by omega) (by omega) (by omega) t0 (by omega) (by omega)]
        by_cases q1 : bt s 1 < 128 ∨ bt s 1 > 191
        · rw [first_bad (k + 5) s 2 _ 1 (by omega) (by omega) (by omega) q1]
          rw [t1] at q1
          refine err ?_
          unfold Lib.decodeN
          rw [if_neg (by omega), if_neg (by omega), if_neg (by omega), if_neg (by omega)]
        · have ex : (b0 : Int) % 2 ^ (7 - 2 : Int).toNat = (b0 : Int) % 32 := rfl
          rw [ex, first_ok (k + 5) s 2 _ 1 (by omega) (by omega) (by omega) (by omega) (by omega) (by omega) (by omega) (by omega), t1]
          rw [t1] at q1
          rw [show (1 : Int) + 1 = 2 from rfl, first_end (k + 4) s 2 _ (by omega) (by omega), if_neg (by show ¬ (b0 : Int) % 32 * 64 + b1 % 64 < 128; omega), if_pos (by unfold Right; omega)]
          have := val (b0 % 32 * 64 + b1 % 64) 2 (by unfold Lib.decodeN; rw [if_neg (by omega), if_pos (by omega), if_pos (by omega)]) (by omega)
          rw [← this]
          simp
    · rw [if_neg c2]
      by_cases c3 : 224 ≤ (b0 : Int) ∧ (b0 : Int) ≤ 239
      · rw [if_pos c3, if_neg (by omega)]
        by_cases hs2 : (3 : Int) > (s.size : Int)
        · rw [decide_eq_true hs2]
          simp only [PY.redactorref01_First.j0]
          rw [if_pos trivial]
          refine err ?_
          unfold Lib.decodeN
          rw [if_neg (by omega), if_neg (by omega), if_neg (by omega), if_neg (by omega)]
        · rw [decide_eq_false hs2, first_j0 (k + 6) s 3 b0 (by omega) (by omega) (by omega) t0 (by omega) (by omega)]
          have ex : (b0 : Int) % 2 ^ (7 - 3 : Int).toNat = (b0 : Int) % 16 := rfl
          by_cases q1 : bt s 1 < 128 ∨ bt s 1 > 191
          · rw [first_bad (k + 5) s 3 _ 1 (by omega) (by omega) (by omega) q1]
            rw [t1] at q1
            refine err ?_
            unfold Lib.decodeN
            rw [if_neg (by omega), if_neg (by omega), if_neg (by omega), if_neg (by omega)]
          · rw [ex, first_ok (k + 5) s 3 _ 1 (by omega) (by omega) (by omega) (by omega) (by omega) (by omega) (by omega) (by omega), t1]
            rw [t1] at q1
            by_cases q2 : bt s 2 < 128 ∨ bt s 2 > 191
            · rw [show (1 : Int) + 1 = 2 from rfl, first_bad (k + 4) s 3 _ 2 (by omega) (by omega) (by omega) q2]
              rw [t2] at q2
              refine err ?_
              unfold Lib.decodeN
              rw [if_neg (by omega), if_neg (by omega), if_neg (by omega), if_neg (by omega)]
            · rw [show (1 : Int) + 1 = 2 from rfl, first_ok (k + 4) s 3 _ 2 (by omega) (by omega) (by omega) (by omega) (by omega) (by omega) (by omega) (by omega), t2]
              rw [t2] at q2
              rw [show (2 : Int) + 1 = 3 from rfl, first_end (k + 3) s 3 _ (by omega) (by omega)]
              have er : rd [0, 0, 128, 2048, 65536] 3 = 2048 := rfl
              rw [er]
              have ev : ((b0 : Int) % 16 * 64 + b1 % 64) * 64 + b2 % 64 = ((b0 % 16 * 4096 + b1 % 64 * 64 + b2 % 64 : Nat) : Int) := by omega
              rw [ev]
              by_cases q3 : b0 % 16 * 4096 + b1 % 64 * 64 + b2 % 64 ≥ 2048 ∧ (b0 % 16 * 4096 + b1 % 64 * 64 + b2 % 64 < 55296 ∨ (57344 ≤ b0 % 16 * 4096 + b1 % 64 * 64 + b2 % 64 ∧ b0 % 16 * 4096 + b1 % 64 * 64 + b2 % 64 ≤ 1114111))
              · rw [if_neg (by omega), if_pos (by unfold Right; omega)]
                exact val _ 3 (by unfold Lib.decodeN; rw [if_neg (by omega), if_neg (by omega), if_pos (by omega), if_pos q3]) (by omega)
              · have e4 : Lib.decodeN (t.length + 1) b0 b1 b2 b3 = (65533, 1) := by
                  unfold Lib.decodeN
                  rw [if_neg (by omega), if_neg (by omega), if_pos (by omega), if_neg q3]
                by_cases q4 : ((b0 % 16 * 4096 + b1 % 64 * 64 + b2 % 64 : Nat) : Int) < 2048
                · rw [if_pos q4]; exact err e4
                · rw [if_neg q4, if_neg (by unfold Right; omega)]; exact err e4
      · rw [if_neg c3]
        by_cases c4 : 240 ≤ (b0 : Int) ∧ (b0 : Int) ≤ 244
        · rw [if_pos c4, if_neg (by omega)]
          by_cases hs2 : (4 : Int) > (s.size : Int)
          · rw [decide_eq_true hs2]
            simp only [PY.redactorref01_First.j0]
            rw [if_pos trivial]
            refine err ?_
            unfold Lib.decodeN
            rw [if_neg (by omega), if_neg (by omega), if_neg (by omega), if_neg (by omega)]
          · rw [decide_eq_false hs2, first_j0 (k + 6) s 4 b0 (by omega) (by omega) (by omega) t0 (by omega) (by omega)]
            have ex : (b0 : Int) % 2 ^ (7 - 4 : Int).toNat = (b0 : Int) % 8 := rfl
            by_cases q1 : bt s 1 < 128 ∨ bt s 1 > 191
            · rw [first_bad (k + 5) s 4 _ 1 (by omega) (by omega) (by omega) q1]
              rw [t1] at q1
              refine err ?_
              unfold Lib.decodeN
              rw [if_neg (by omega), if_neg (by omega), if_neg (by omega), if_neg (by omega)]
            · rw [ex, first_ok (k + 5) s 4 _ 1 (by omega) (by omega) (by omega) (by omega) (by omega) (by omega) (by omega) (by omega), t1]
              rw [t1] at q1
              by_cases q2 : bt s 2 < 128 ∨ bt s 2 > 191
              · rw [show (1 : Int) + 1 = 2 from rfl, first_bad (k + 4) s 4 _ 2 (by omega) (by omega) (by omega) q2]
                rw [t2] at q2
                refine err ?_
                unfold Lib.decodeN
                rw [if_neg (by omega), if_neg (by omega), if_neg (by omega), if_neg (by omega)]
              · rw [show (1 : Int) + 1 = 2 from rfl, first_ok (k + 4) s 4 _ 2 (by omega) (by omega) (by omega) (by omega) (by omega) (by omega) (by omega) (by omega), t2]
                rw [t2] at q2
                by_cases q3 : bt s 3 < 128 ∨ bt s 3 > 191
                · rw [show (2 : Int) + 1 = 3 from rfl, first_bad (k + 3) s 4 _ 3 (by omega) (by omega) (by omega) q3]
                  rw [t3] at q3
                  refine err ?_
                  unfold Lib.decodeN
                  rw [if_neg (by omega), if_neg (by omega), if_neg (by omega), if_neg (by omega)]
                · rw [show (2 : Int) + 1 = 3 from rfl, first_ok (k + 3) s 4 _ 3 (by omega) (by omega) (by omega) (by omega) (by omega) (by omega) (by omega) (by omega), t3]
                  rw [t3] at q3
                  rw [show (3 : Int) + 1 = 4 from rfl, first_end (k + 2) s 4 _ (by omega) (by omega)]
                  have er : rd [0, 0, 128, 2048, 65536] 4 = 65536 := rfl
                  rw [er]
                  have ev : (((b0 : Int) % 8 * 64 + b1 % 64) * 64 + b2 % 64) * 64 + b3 % 64 = ((b0 % 8 * 262144 + b1 % 64 * 4096 + b2 % 64 * 64 + b3 % 64 : Nat) : Int) := by omega
                  rw [ev]
                  by_cases q4 : b0 % 8 * 262144 + b1 % 64 * 4096 + b2 % 64 * 64 + b3 % 64 ≥ 65536 ∧ (b0 % 8 * 262144 + b1 % 64 * 4096 + b2 % 64 * 64 + b3 % 64 < 55296 ∨ (57344 ≤ b0 % 8 * 262144 + b1 % 64 * 4096 + b2 % 64 * 64 + b3 % 64 ∧ b0 % 8 * 262144 + b1 % 64 * 4096 + b2 % 64 * 64 + b3 % 64 ≤ 1114111))
                  · rw [if_neg (by omega), if_pos (by unfold Right; omega)]
                    exact val _ 4 (by unfold Lib.decodeN; rw [if_neg (by omega), if_neg (by omega), if_neg (by omega), if_pos (by omega), if_pos q4]) (by omega)
                  · have e4 : Lib.decodeN (t.length + 1) b0 b1 b2 b3 = (65533, 1) := by
                      unfold Lib.decodeN
                      rw [if_neg (by omega), if_neg (by omega), if_neg (by omega), if_pos (by omega), if_neg q4]
                    by_cases q5 : ((b0 % 8 * 262144 + b1 % 64 * 4096 + b2 % 64 * 64 + b3 % 64 : Nat) : Int) < 65536
                    · rw [if_pos q5]; exact err e4
                    · rw [if_neg q5, if_neg (by unfold Right; omega)]; exact err e4
        · rw [if_neg c4, if_pos rfl]
          simp only [PY.redactorref01_First.j0]
          rw [if_pos trivial]
          refine err ?_
          unfold Lib.decodeN
          rw [if_neg (by omega)]
          by_cases d2 : b0 / 32 = 6 ∧ (1 < t.length + 1 ∧ b1 / 64 = 2)
          · rw [if_pos d2, if_neg (by omega)]
          · rw [if_neg d2, if_neg (by omega)]
            by_cases d4 : b0 / 8 = 30 ∧ (1 < t.length + 1 ∧ b1 / 64 = 2) ∧ (2 < t.length + 1 ∧ b2 / 64 = 2) ∧ (3 < t.length + 1 ∧ b3 / 64 = 2)
            · rw [if_pos d4, if_neg (by omega)]
            · rw [if_neg d4]

theorem step_nat {i w L d k a : Nat} (hw : w ≤ L - i) (w1 : 1 ≤ w) (hlt : i < L) (hd : L ≤ i + (d + 1)) (hk : d + 1 + 8 < k + 1) (ha : a ≤ i) : i + w ≤ L ∧ L ≤ i + w + d ∧ d + 8 < k ∧ a + 1 ≤ i + w := by omega
theorem of_l0 (l : List Int) (h : Bytes l) (hl : l.length < 35184372088832) : ∀ (d k i : Nat) (acc : List Int), i ≤ l.length → l.length ≤ i + d → d + 8 < k → acc.length ≤ i →
    PY.redactorref01_Of.l0 k (strOfNums l) acc (i : Int) = some (acc ++ dec8 (l.drop i)) := by
  intro d
  induction d with
  | zero =>
    intro k i acc hi hd hk ha
    obtain ⟨k, rfl⟩ : ∃ m, k = m + 1 := ⟨k - 1, by omega⟩
    simp only [PY.redactorref01_Of.l0]
    rw [if_neg (by rw [strOfNums_size]; omega), List.drop_eq_nil_of_le (by omega), decode_nil, List.append_nil]
  | succ d ih =>
    intro k i acc hi hd hk ha
    obtain ⟨k, rfl⟩ : ∃ m, k = m + 1 := ⟨k - 1, by omega⟩
    by_cases hlt : i < l.length
    · have hacc : acc.length < 35184372088832 := Nat.lt_of_le_of_lt ha (Nat.lt_trans hlt hl)
      have e := drop_rd l i hlt
      have hb := h.drop i
      rw [e] at hb
      have ei : ((i : Int)).toNat = i := by omega
      simp only [PY.redactorref01_Of.l0]
      rw [if_pos (by rw [strOfNums_size]; omega), if_pos (by omega), if_pos (by rw [strOfNums_size]; omega), ei, extract_f, e, first_f k _ _ hb (by omega), Option.bind_some, bt_f h, decode_cons]
      have hx := hb.head
      rcases decP_cases hb with ⟨e1, e2⟩ | ⟨c, w, e1, hn, e2, w1, w2, hc, hr, hs⟩
      · have ew : wrap64 ((i : Int) + 1) = ((i + 1 : Nat) : Int) := by rw [w64 (by omega) (by omega)]; omega
        rw [e1, e2, if_pos rfl, if_pos rfl, ref_escape_f _ hx.1 hx.2, Option.bind_some, if_pos hacc, ew, ih k (i + 1) (acc ++ [-1 - rd l i]) (by omega) (by omega) (by omega) (by rw [List.length_append, List.length_singleton]; omega)]
        simp
      · have hw : w ≤ l.length - i := by
          rw [List.length_cons, List.length_drop] at w2
          omega
        have hne : ¬ ((c, (w : Int)) = ((65533, 1) : Int × Int)) := fun e5 => by injection e5 with e6 e7; omega
        have ew : wrap64 ((i : Int) + (w : Int)) = ((i + w : Nat) : Int) := by rw [w64 (by omega) (by omega)]; omega
        have f0 : ¬ (w : Int) = 0 := by omega
        obtain ⟨f2, f3, f4, f5⟩ := step_nat hw w1 hlt hd hk ha
        have f6 : (acc ++ [c]).length ≤ i + w := by rw [List.length_append, List.length_singleton]; exact f5
        rw [e1, e2, if_neg hne, if_neg f0, if_pos hacc]
        show PY.redactorref01_Of.l0 k (strOfNums l) (acc ++ [c]) (wrap64 ((i : Int) + (w : Int))) = _
        rw [ew, ih k (i + w) (acc ++ [c]) f2 f3 f4 f6]
        have ed : l.drop (i + w) = (l.drop (i + 1)).drop (w - 1) := by rw [List.drop_drop]; congr 1; omega
        rw [ed]
        simp
    · simp only [PY.redactorref01_Of.l0]
      rw [if_neg (by rw [strOfNums_size]; omega), List.drop_eq_nil_of_le (by omega), decode_nil, List.append_nil]
theorem ref_decode_f (k : Nat) (l : List Int) (h : Bytes l) (hk : l.length + 8 < k) (hl : l.length < 35184372088832) : PY.redactorref02_Decode.f k l = some (dec8 l) := by
  unfold PY.redactorref02_Decode.f PY.redactorref01_Of.f
  have := of_l0 l h hl l.length k 0 [] (by omega) (by omega) hk (by simp)
  rw [show ((0 : Nat) : Int) = 0 from rfl] at this
  rw [this, Option.bind_some]
  rfl
#print axioms ref_decode_f
end Go.Proofs.YtcofbakhhcgbfaaDoor.Utf

/- The document's answer for UTF-16: Decode is 'dec16'; for codec's Decode: the same as the program's. Conditions: bytes are bytes, lists are shorter than Go's bound. -/
namespace Go.Proofs.YtcofbakhhcgbfaaDoor.Utf
open Go.RowKit Go.Proofs.YtcofbakhhcgbfaaDoorW.PrintWords Go.Proofs.YtcofbakhhcgbfaaDoorW.PrintLast Go.Proofs.YtcofbakhhcgbfaaDoorW.PrintMore
open EC
set_option linter.unusedVariables false

theorem drop_at {l t : List Int} {i : Nat} {x : Int} (h : l.drop i = x :: t) : rd l (i : Int) = x ∧ i < l.length ∧ l.drop (i + 1) = t ∧ l.length = i + 1 + t.length := by
  have hlt : i < l.length := by
    rcases Nat.lt_or_ge i l.length with q | q
    · exact q
    · rw [List.drop_eq_nil_of_le q] at h; cases h
  have e := drop_rd l i hlt
  rw [h] at e
  have e2 := (List.cons.inj e).2
  have e3 := congrArg List.length h
  rw [List.length_drop, List.length_cons] at e3
  exact ⟨(List.cons.inj e).1.symm, hlt, e2.symm, by omega⟩
theorem wk (i c : Nat) (h : i < 35184372088832) (hc : c ≤ 4) : wrap64 ((i : Int) + (c : Int)) = ((i + c : Nat) : Int) := by
  rw [w64 (by omega) (by omega)]
  omega
theorem unit_r (big : Bool) {x y : Int} (hx : 0 ≤ x ∧ x < 256) (hy : 0 ≤ y ∧ y < 256) : PY.redactorref03_unit.f x y big = some (unit big x y) := by
  unfold PY.redactorref03_unit.f unit
  rw [w32 (i := x) (by omega) (by omega), w32 (i := y) (by omega) (by omega), w32 (i := x * 256) (by omega) (by omega), w32 (i := y * 256) (by omega) (by omega), w32 (i := x * 256 + y) (by omega) (by omega), w32 (i := y * 256 + x) (by omega) (by omega)]
  cases big
  · rw [if_neg Bool.false_ne_true, if_neg Bool.false_ne_true]
  · rw [if_pos rfl, if_pos rfl]
theorem ref16_l0 (big : Bool) (l : List Int) (hB : Bytes l) (hl : l.length < 35184372088832) : ∀ (d k i : Nat) (acc : List Int), l.length ≤ i + d → 4 * d < k → acc.length ≤ i → i ≤ l.length →
    PY.redactorref03_Decode.l0 k l big acc (i : Int) = some (acc ++ dec16 big (l.drop i)) := by
  intro d
  induction d using Nat.strongRecOn with
  | ind d ih =>
    intro k i acc hd hk ha hi
    have hi2 : i ≤ l.length := hi
    have HL := Aside0.mk hl
    have HA := Aside0.mk (Nat.lt_of_le_of_lt (Nat.le_trans ha hi) hl)
    have HI := Aside0.mk (Nat.lt_of_le_of_lt hi hl)
    clear hl
    obtain ⟨k, rfl⟩ : ∃ m, k = m + 1 := ⟨k - 1, by omega⟩
    have hdrop : Bytes (l.drop i) := hB.drop i
    rcases e0 : l.drop i with _ | ⟨x, t⟩
    · have : l.length ≤ i := by
        have := congrArg List.length e0
        rw [List.length_drop] at this
        simp only [List.length_nil] at this
        omega
      simp only [PY.redactorref03_Decode.l0]
      rw [if_neg (by omega), dec16_nil, List.append_nil]
    · rw [e0] at hdrop
      obtain ⟨r0, l0, e1, n0⟩ := drop_at e0
      have hx := hdrop.head
      have EW1 : Aside0 (wrap64 ((i : Int) + 1) = ((i + 1 : Nat) : Int)) := ⟨wk i 1 HI.out (by decide)⟩
      have EW2 : Aside0 (wrap64 ((i : Int) + 2) = ((i + 2 : Nat) : Int)) := ⟨wk i 2 HI.out (by decide)⟩
      have EW3 : Aside0 (wrap64 ((i : Int) + 3) = ((i + 3 : Nat) : Int)) := ⟨wk i 3 HI.out (by decide)⟩
      have EW4 : Aside0 (wrap64 ((i : Int) + 4) = ((i + 4 : Nat) : Int)) := ⟨wk i 4 HI.out (by decide)⟩
      simp only [PY.redactorref03_Decode.l0]
      rw [if_pos (by omega), EW1.out]
      rcases t with _ | ⟨y, r⟩
      · simp only [List.length_nil] at n0
        rw [if_pos (by omega), if_pos (by omega), r0, ref_escape_f x hx.1 hx.2, Option.bind_some, if_pos HA.out, dec16_cons]
        show some (acc ++ [-1 - x]) = some (acc ++ ([-1 - x] ++ dec16 big []))
        rw [dec16_nil, List.append_nil]
      · simp only [List.length_cons] at n0
        obtain ⟨r1, l1, e2, _⟩ := drop_at e1
        have hy := hdrop.tail.head
        have hu := unit_range big hx hy
        obtain ⟨k, rfl⟩ : ∃ m, k = m + 1 + 1 + 1 := ⟨k - 3, by omega⟩
        obtain ⟨d, rfl⟩ : ∃ m, d = m + 2 := ⟨d - 2, by omega⟩
        rw [if_neg (by omega), if_pos (by omega), if_pos (by omega), if_pos (by omega), r0, r1, unit_r big hx hy, Option.bind_some, dec16_cons]
        have two : ∀ (k2 : Nat) (z : List Int), 4 * d < k2 → z.length ≤ 2 → PY.redactorref03_Decode.l0 k2 l big (acc ++ z) ((i + 2 : Nat) : Int) = some (acc ++ (z ++ dec16 big r)) := fun k2 z hk2 hz => by
          rw [ih d (by omega) k2 (i + 2) (acc ++ z) (by omega) hk2 (by rw [List.length_append]; omega) (by omega), e2, List.append_assoc]
        by_cases c1 : unit big x y < 55296 ∨ 57344 ≤ unit big x y
        · have e : st big (x :: y :: r) = ([unit big x y], 2) := if_pos c1
          have go : PY.redactorref03_Decode.j1 (k + 1 + 1 + 1) l big acc (i : Int) (unit big x y) true = some (acc ++ ([unit big x y] ++ dec16 big r)) := by
            simp only [PY.redactorref03_Decode.j1]
            rw [if_pos trivial, if_pos HA.out, EW2.out]
            exact two (k + 1 + 1) [unit big x y] (by omega) (by simp)
          rw [e]
          show _ = some (acc ++ ([unit big x y] ++ dec16 big r))
          by_cases c2 : unit big x y < 55296
          · rw [if_pos c2]; exact go
          · rw [if_neg c2, decide_eq_true (show unit big x y > 57343 by omega)]; exact go
        · rw [if_neg (show ¬ unit big x y < 55296 by omega), decide_eq_false (show ¬ unit big x y > 57343 by omega)]
          simp only [PY.redactorref03_Decode.j1]
          rw [if_neg Bool.false_ne_true, EW3.out]
          have esc : ∀ v : Int, PY.redactorref03_Decode.j3 (k + 1) l big acc (i : Int) (unit big x y) v false = some (acc ++ ([-1 - x, -1 - y] ++ dec16 big r)) := fun v => by
            simp only [PY.redactorref03_Decode.j3]
            rw [if_neg Bool.false_ne_true, if_pos (by omega), if_pos (by omega), r0, ref_escape_f x hx.1 hx.2, Option.bind_some, EW1.out, if_pos (by omega), if_pos (by omega), r1, ref_escape_f y hy.1 hy.2, Option.bind_some, Option.bind_some, if_pos (show acc.length + ([-1 - x, -1 - y] : List Int).length < 35184372088832 from Nat.lt_of_le_of_lt (show acc.length + 2 ≤ l.length by omega) HL.out), EW2.out]
            exact two k [-1 - x, -1 - y] (by omega) (by simp)
          have esc2 : ∀ v : Int, low (unit big x y) v = false → PY.redactorref03_Decode.j2 (k + 1 + 1) l big acc (i : Int) (unit big x y) v = some (acc ++ ([-1 - x, -1 - y] ++ dec16 big r)) := fun v hv => by
            have hv2 := of_decide_eq_false hv
            simp only [PY.redactorref03_Decode.j2]
            by_cases c2 : unit big x y < 56320
            · rw [if_pos c2]
              by_cases c3 : v ≥ 56320
              · rw [if_pos c3, decide_eq_false (show ¬ v ≤ 57343 by omega)]; exact esc v
              · rw [if_neg c3]; exact esc v
            · rw [if_neg c2]; exact esc v
          rcases r with _ | ⟨z, _ | ⟨w, r⟩⟩
          · have e : st big [x, y] = ([-1 - x, -1 - y], 2) := if_neg c1
            simp only [List.length_nil] at n0
            rw [e, if_neg (by omega)]
            exact esc2 0 (decide_eq_false (by omega))
          · have e : st big [x, y, z] = ([-1 - x, -1 - y], 2) := if_neg c1
            simp only [List.length_cons, List.length_nil] at n0
            rw [e, if_neg (by omega)]
            exact esc2 0 (decide_eq_false (by omega))
          · have hz := hdrop.tail.tail.head
            have hw := hdrop.tail.tail.tail.head
            have hv := unit_range big hz hw
            simp only [List.length_cons] at n0
            obtain ⟨r2, l2, e3, _⟩ := drop_at e2
            obtain ⟨r3, l3, e4, _⟩ := drop_at e3
            have r2' : rd l ((i + 2 : Nat) : Int) = z := r2
            have r3' : rd l ((i + 3 : Nat) : Int) = w := r3
            rw [if_pos (by omega), EW2.out, if_pos (by omega), if_pos (by omega), if_pos (by omega), r2', r3', unit_r big hz hw, Option.bind_some]
            by_cases c2 : low (unit big x y) (unit big z w) = true
            · have e : st big (x :: y :: z :: w :: r) = ([65536 + (unit big x y - 55296) * 1024 + (unit big z w - 56320)], 4) := (if_neg c1).trans (if_pos c2)
              have c3 := of_decide_eq_true c2
              rw [e]
              simp only [PY.redactorref03_Decode.j2]
              rw [if_pos c3.1, if_pos (by omega), decide_eq_true (show unit big z w ≤ 57343 by omega)]
              simp only [PY.redactorref03_Decode.j3]
              have ew : wrap32 (wrap32 (wrap32 (65536 + wrap32 (wrap32 (unit big x y - 55296) * 1024)) + unit big z w) - 56320) = 65536 + (unit big x y - 55296) * 1024 + (unit big z w - 56320) := by
                rw [w32 (i := unit big x y - 55296) (by omega) (by omega), w32 (i := (unit big x y - 55296) * 1024) (by omega) (by omega), w32 (i := 65536 + (unit big x y - 55296) * 1024) (by omega) (by omega), w32 (i := 65536 + (unit big x y - 55296) * 1024 + unit big z w) (by omega) (by omega), w32 (by omega) (by omega)]
                omega
              rw [if_pos trivial, if_pos HA.out, ew, EW4.out]
              show _ = some (acc ++ ([_] ++ dec16 big r))
              rw [ih (d - 2) (by omega) k (i + 4) (acc ++ [_]) (by omega) (by omega) (by rw [List.length_append]; simp only [List.length_cons, List.length_nil]; omega) (by omega)]
              have e5 : l.drop (i + 4) = r := e4
              rw [e5, List.append_assoc]
            · have c2' : low (unit big x y) (unit big z w) = false := by simpa using c2
              have e : st big (x :: y :: z :: w :: r) = ([-1 - x, -1 - y], 2) := (if_neg c1).trans (if_neg c2)
              rw [e]
              exact esc2 _ c2'
theorem ref16_f (k : Nat) (l : List Int) (big : Bool) (hB : Bytes l) (hk : 4 * l.length < k) (hl : l.length < 35184372088832) : PY.redactorref03_Decode.f k l big = some (dec16 big l) := by
  unfold PY.redactorref03_Decode.f
  have := ref16_l0 big l hB hl l.length k 0 [] (by omega) hk (Nat.zero_le _) (by omega)
  rw [show ((0 : Nat) : Int) = 0 from rfl] at this
  rw [this]
  rfl

/-! ### codec's Decode -/
def decW (a : Int) (l : List Int) : Int × Bool × Bool × List Int × Int :=
  if a = 1 then (1, false, false, dec8 l, 0)
  else if a = 3 then (3, false, false, l, 0)
  else if a = 2 then (2, (s2 l).1, (s2 l).2, dec16 (s2 l).1 (if (s2 l).2 = true then l.drop 2 else l), 0)
  else (0, false, false, [], 1)
theorem dec_c (k : Nat) (a : Int) (l : List Int) (h : Bytes l) (hk : 4 * l.length < k) (hk2 : l.length < k) (hl : l.length < 1000000) : PX.codec_Decode.f k a l = some (decW a l) := by
  unfold decW
  by_cases h1 : a = 1
  · rw [if_pos h1, h1, dec_1 k l h hk2 (by omega)]
  · rw [if_neg h1]
    by_cases h3 : a = 3
    · rw [if_pos h3, h3, dec_3 k l h (by omega)]
    · rw [if_neg h3]
      by_cases h2 : a = 2
      · rw [if_pos h2, h2]
        rcases s2_cases h with ⟨r, hr, ht⟩ | ⟨hs, _⟩
        · have hb : Bytes r := fun x hx => h x (by rw [hr]; exact List.mem_append_right _ hx)
          have el : l.length = 2 + r.length := by
            have := congrArg List.length hr
            rw [List.length_append] at this
            have e2 : (bom (s2 l).1).length = 2 := by unfold bom; cases (s2 l).1 <;> rfl
            omega
          have e2 : l.drop 2 = r := by
            rw [hr]
            unfold bom
            cases (s2 l).1 <;> rfl
          rw [ht, if_pos rfl, e2]
          have := dec_2_mark k (s2 l).1 r hb (by omega) (by omega)
          rw [← hr] at this
          exact this
        · rw [dec_2_none k l h hs hk (by omega), hs, if_neg Bool.false_ne_true]
      · rw [if_neg h2]
        unfold PX.codec_Decode.f
        rw [if_neg h1, if_neg h2, if_neg h3]
/-- The copy of Latin-1's bytes. -/
theorem lat1_r (b1 b2 : Bool) (a : Int) (l : List Int) (hB : Bytes l) (hl : l.length < 35184372088832) : ∀ (d k i : Nat) (acc : List Int), i + d = l.length → d < k → acc.length ≤ i →
    PY.redactorref04_Decode.l0 k l (i : Int) a b1 b2 acc = some (a, b1, b2, acc ++ l.drop i, 0) := by
  intro d
  induction d with
  | zero =>
    intro k i acc hi hk ha
    obtain ⟨k, rfl⟩ : ∃ m, k = m + 1 := ⟨k - 1, by omega⟩
    simp only [PY.redactorref04_Decode.l0]
    rw [if_neg (by omega), List.drop_eq_nil_of_le (by omega), List.append_nil]
  | succ d ih =>
    intro k i acc hi hk ha
    obtain ⟨k, rfl⟩ : ∃ m, k = m + 1 := ⟨k - 1, by omega⟩
    have hlt : i < l.length := by omega
    have hr := rd_bytes hB (i : Int)
    have ew : wrap64 ((i : Int) + 1) = ((i + 1 : Nat) : Int) := by rw [w64 (by omega) (by omega)]; omega
    simp only [PY.redactorref04_Decode.l0]
    rw [if_pos (by omega), if_pos (by omega), if_pos (by omega), ew, w32 (by omega) (by omega), ih k (i + 1) _ (by omega) (by omega) (by rw [List.length_append]; simp only [List.length_cons, List.length_nil]; omega), drop_rd l i hlt]
    simp
theorem pfx_two (x y a b : Int) (r : List Int) (h : Bytes (x :: y :: r)) (hab : Bytes [a, b]) : pfx (x :: y :: r) [a, b] = decide (x = a ∧ y = b) := by
  unfold pfx
  rw [if_pos (by simp)]
  show ((strOfNums [x, y]).toList == (strOfNums [a, b]).toList) = _
  by_cases q : x = a ∧ y = b
  · obtain ⟨rfl, rfl⟩ := q
    rw [decide_eq_true ⟨rfl, rfl⟩]
    exact beq_self_eq_true _
  · rw [decide_eq_false q]
    refine beq_eq_false_iff_ne.2 (fun e => q ?_)
    have := strs_bytes (Bytes.cons h.head.1 h.head.2 (Bytes.cons h.tail.head.1 h.tail.head.2 Bytes.nil)) hab e
    simp only [List.cons.injEq, and_true] at this
    exact this
theorem pfx_short (l m : List Int) (h : ¬ m.length ≤ l.length) : pfx l m = false := by
  unfold pfx
  rw [if_neg h]
theorem dec_r (k : Nat) (a : Int) (l : List Int) (h : Bytes l) (hk : 4 * l.length + 20 < k) (hl : l.length < 1000000) : PY.redactorref04_Decode.f k a l = some (decW a l) := by
  obtain ⟨k, rfl⟩ : ∃ m, k = m + 1 + 1 + 1 := ⟨k - 3, by omega⟩
  unfold decW PY.redactorref04_Decode.f
  by_cases h1 : a = 1
  · rw [if_pos h1, if_pos h1, ref_decode_f _ l h (by omega) (by omega), Option.bind_some, h1]
  · rw [if_neg h1, if_neg h1]
    by_cases h3 : a = 3
    · rw [if_pos h3, if_pos h3]
      have := lat1_r false false a l h (by omega) l.length (k + 1 + 1 + 1) 0 [] (by omega) (by omega) (Nat.zero_le _)
      rw [show ((0 : Nat) : Int) = 0 from rfl] at this
      rw [this, h3]
      rfl
    · rw [if_neg h3, if_neg h3]
      by_cases h2 : a = 2
      · rw [if_pos h2, if_pos h2, h2]
        have hs : ∀ b m : Bool, s2 l = (b, m) → (m = true → 2 ≤ l.length) → ∀ x, x = dec16 b (if m = true then l.drop 2 else l) → some ((2 : Int), b, m, x, (0 : Int)) = some (2, (s2 l).1, (s2 l).2, dec16 (s2 l).1 (if (s2 l).2 = true then l.drop 2 else l), 0) := fun b m e _ x hx => by rw [e, hx]
        rcases l with _ | ⟨x, _ | ⟨y, r⟩⟩
        · have e : s2 [] = (true, false) := by
            unfold s2 s1
            rw [pfx_short _ _ (by simp), pfx_short _ _ (by simp)]
            rfl
          rw [if_neg (by simp)]
          simp only [PY.redactorref04_Decode.j1, PY.redactorref04_Decode.j2, PY.redactorref04_Decode.j3]
          rw [if_neg Bool.false_ne_true, if_neg (by simp), if_neg Bool.false_ne_true, if_neg Bool.false_ne_true, ref16_f _ _ true h (by simp only [List.length_nil] at hk ⊢; omega) (by simp), Option.bind_some]
          exact hs true false e (fun q => by cases q) _ rfl
        · have e : s2 [x] = (true, false) := by
            unfold s2 s1
            rw [pfx_short _ _ (by simp), pfx_short _ _ (by simp)]
            rfl
          rw [if_neg (by simp)]
          simp only [PY.redactorref04_Decode.j1, PY.redactorref04_Decode.j2, PY.redactorref04_Decode.j3]
          rw [if_neg Bool.false_ne_true, if_neg (by simp), if_neg Bool.false_ne_true, if_neg Bool.false_ne_true, ref16_f _ _ true h (by simp only [List.length_cons, List.length_nil] at hk ⊢; omega) (by simp), Option.bind_some]
          exact hs true false e (fun q => by cases q) _ rfl
        · have f1 := pfx_two x y 255 254 r h bom_le
          have f2 := pfx_two x y 254 255 r h bom_be
          have hr : Bytes r := h.tail.tail
          have g0 : (0 : Int) < (((x :: y :: r).length : Nat) : Int) := by simp only [List.length_cons]; omega
          have g1 : (1 : Int) < (((x :: y :: r).length : Nat) : Int) := by simp only [List.length_cons]; omega
          have g2 : (((x :: y :: r).length : Nat) : Int) ≥ 2 := by simp only [List.length_cons]; omega
          simp only [List.length_cons] at hk hl
          have n1 : 4 * (x :: y :: r).length < k := by simp only [List.length_cons]; omega
          have n2 : (x :: y :: r).length < 35184372088832 := by simp only [List.length_cons]; omega
          rw [if_pos g2, if_pos g0, rd0, rd1]
          have big : x = 254 ∧ y = 255 → PY.redactorref04_Decode.j1 (k + 1 + 1 + 1) (x :: y :: r) true 2 true false = some (2, (s2 (x :: y :: r)).1, (s2 (x :: y :: r)).2, dec16 (s2 (x :: y :: r)).1 (if (s2 (x :: y :: r)).2 = true then (x :: y :: r).drop 2 else (x :: y :: r)), 0) := fun q => by
            have e : s2 (x :: y :: r) = (true, true) := by
              unfold s2 s1
              rw [f1, f2, decide_eq_true q, decide_eq_false (by omega)]
              rfl
            simp only [PY.redactorref04_Decode.j1, PY.redactorref04_Decode.j2]
            rw [if_pos trivial, if_pos g2, if_pos g0, rd0, if_neg (by omega)]
            simp only [PY.redactorref04_Decode.j3]
            rw [if_neg Bool.false_ne_true, if_pos trivial, if_pos (by omega)]
            show ((PY.redactorref03_Decode.f k r true).bind _) = _
            rw [ref16_f k r true hr (by omega) (by omega), Option.bind_some]
            exact hs true true e (fun _ => by simp) _ rfl
          have rest : ¬ (x = 254 ∧ y = 255) → PY.redactorref04_Decode.j1 (k + 1 + 1 + 1) (x :: y :: r) false 2 true false = some (2, (s2 (x :: y :: r)).1, (s2 (x :: y :: r)).2, dec16 (s2 (x :: y :: r)).1 (if (s2 (x :: y :: r)).2 = true then (x :: y :: r).drop 2 else (x :: y :: r)), 0) := fun q => by
            simp only [PY.redactorref04_Decode.j1, PY.redactorref04_Decode.j2]
            rw [if_neg Bool.false_ne_true, if_pos g2, if_pos g0, rd0, rd1]
            have no : ¬ (x = 255 ∧ y = 254) → PY.redactorref04_Decode.j3 (k + 1) (x :: y :: r) false 2 true false = some (2, (s2 (x :: y :: r)).1, (s2 (x :: y :: r)).2, dec16 (s2 (x :: y :: r)).1 (if (s2 (x :: y :: r)).2 = true then (x :: y :: r).drop 2 else (x :: y :: r)), 0) := fun q2 => by
              have e : s2 (x :: y :: r) = (true, false) := by
                unfold s2 s1
                rw [f1, f2, decide_eq_false q, decide_eq_false q2]
                rfl
              simp only [PY.redactorref04_Decode.j3]
              rw [if_neg Bool.false_ne_true, if_neg Bool.false_ne_true, ref16_f k _ true h n1 n2, Option.bind_some]
              exact hs true false e (fun q => by cases q) _ rfl
            by_cases q1 : x = 255
            · rw [if_pos q1, if_pos g1]
              by_cases q2 : y = 254
              · have e : s2 (x :: y :: r) = (false, true) := by
                  unfold s2
                  rw [f1, decide_eq_true ⟨q1, q2⟩]
                  rfl
                rw [beq_iff_eq.2 q2]
                simp only [PY.redactorref04_Decode.j3]
                rw [if_pos trivial, if_pos (by omega)]
                show ((PY.redactorref03_Decode.f k r false).bind _) = _
                rw [ref16_f k r false hr (by omega) (by omega), Option.bind_some]
                exact hs false true e (fun _ => by simp) _ rfl
              · rw [beq_eq_false_iff_ne.2 q2]
                exact no (fun z => q2 z.2)
            · rw [if_neg q1]
              exact no (fun z => q1 z.1)
          by_cases q1 : x = 254
          · rw [if_pos q1, if_pos g1]
            by_cases q2 : y = 255
            · rw [beq_iff_eq.2 q2]; exact big ⟨q1, q2⟩
            · rw [beq_eq_false_iff_ne.2 q2]; exact rest (fun z => q2 z.2)
          · rw [if_neg q1]; exact rest (fun z => q1 z.1)
      · rw [if_neg h2, if_neg h2]
theorem decW_len (a : Int) (l : List Int) (h : Bytes l) : (decW a l).2.2.2.1.length ≤ l.length := by
  unfold decW
  have e8 := decode_len h
  split
  · exact e8
  · split
    · exact Nat.le_refl _
    · split
      · show (dec16 _ _).length ≤ _
        by_cases q : (s2 l).2 = true
        · rw [if_pos q]
          have := dec16_len (s2 l).1 (h.drop 2)
          rw [List.length_drop] at this
          omega
        · rw [if_neg q]
          exact dec16_len (s2 l).1 h
      · exact Nat.zero_le _
theorem decW_err (a : Int) (l : List Int) : 0 ≤ (decW a l).2.2.2.2 ∧ (decW a l).2.2.2.2 ≤ 1 := by
  have c0 : (0 : Int) ≤ 0 ∧ (0 : Int) ≤ 1 := by decide
  have c1 : (0 : Int) ≤ 1 ∧ (1 : Int) ≤ 1 := by decide
  unfold decW
  split
  · exact c0
  · split
    · exact c0
    · split
      · exact c0
      · exact c1
theorem decodes_f (k : Nat) (a : Int) (l : List Int) (h : Bytes l) (hk : 5 * l.length + 20 < k) (hl : l.length < 1000000) : PY.redactorlaw04_decodes.f k a l = some true := by
  have e := decW_err a l
  have el := decW_len a l h
  unfold PY.redactorlaw04_decodes.f
  rw [dec_c k a l h (by omega) (by omega) hl, Option.bind_some, dec_r k a l h (by omega) hl, Option.bind_some]
  unfold PY.redactorref04_Same.f
  rw [if_pos rfl, if_pos (beq_self_eq_true _), if_pos (beq_self_eq_true _), same_f k _ _ (by omega) (by omega), decide_eq_true rfl, Option.bind_some, Option.bind_some, if_pos rfl, w64 (by omega) (by omega), beq_self_eq_true]
#print axioms decodes_f
end Go.Proofs.YtcofbakhhcgbfaaDoor.Utf

/- CodecDecodes, the plain law: Decode of any bytes, of any encoding, is the document's answer. No conditions beyond the arguments' types. -/
namespace Go.Proofs.YtcofbakhhcgbfaaDoor.Pure
open Go.RowKit Go.Proofs.YtcofbakhhcgbfaaDoorW.PrintWords Go.Proofs.YtcofbakhhcgbfaaDoorW.PrintLast Go.Proofs.YtcofbakhhcgbfaaDoor.Utf
set_option linter.unusedVariables false

theorem dec_j0 (k : Nat) (a : Int) (l c : List Int) (e : Int) (hB : Bytes l) (hC : Bytes c) (hc : c.length < 140737488355328) (hl : l.length ≤ 300) (hk : 2000 < k) :
    PY.redactorlaw04_CodecDecodes.j0 (k + 1) a l c e false = some true := by
  obtain ⟨m, hm, hm2, hm3⟩ := bytes4_f c e hC hc
  simp only [PY.redactorlaw04_CodecDecodes.j0]
  rw [if_neg Bool.false_ne_true, decodes_f k a l hB (by omega) (by omega), Option.bind_some, if_pos rfl, decodes_f k _ l hB (by omega) (by omega), Option.bind_some, if_pos rfl, hm3 k (by omega), Option.bind_some, decodes_f k _ m hm (by omega) (by omega), Option.bind_some]
theorem CodecDecodes : PY.redactorlaw04_CodecDecodes.Pure := by
  intro a l c e ha hl1 hl2 hl hc1 hc2 hc he
  have hB := wf_bytes hl
  have hC := wf_bytes hc
  refine ⟨3000, ?_⟩
  unfold PY.redactorlaw04_CodecDecodes.f
  by_cases h : (l.length : Int) > 300
  · rw [if_pos h]
    simp only [PY.redactorlaw04_CodecDecodes.j0]
    rw [if_pos trivial, known_x 2999 (by omega), Option.bind_some]
  · rw [if_neg h, known_x 3000 (by omega), Option.bind_some]
    exact dec_j0 2999 a l c e hB hC (by omega) (by omega) (by omega)
#print axioms CodecDecodes
end Go.Proofs.YtcofbakhhcgbfaaDoor.Pure
