/- The bytes that choices say (redactorlaw02.Bytes, redactorlaw03.Bytes, redactorlaw04.Bytes): bytes, no more than 62, the same for all rounds. No conditions. -/
import Derived.Test.YtcofbakhhcgbfaaDoorPureC4
import Derived.Test.YtcofbakhhcgbfaaDoorPX4
namespace Go.Proofs.YtcofbakhhcgbfaaDoor.Utf
open Go.RowKit Go.Proofs.YtcofbakhhcgbfaaDoorW.PrintWords Go.Proofs.YtcofbakhhcgbfaaDoorW.PrintLast Go.Proofs.YtcofbakhhcgbfaaDoorW.PrintMore
set_option linter.unusedVariables false

theorem rd_bytes {l : List Int} (h : Bytes l) (i : Int) : 0 ≤ rd l i ∧ rd l i < 256 := by
  unfold rd
  rw [List.getD_eq_getElem?_getD]
  by_cases hi : i.toNat < l.length
  · rw [List.getElem?_eq_getElem hi]; exact h _ (List.getElem_mem hi)
  · rw [List.getElem?_eq_none (by omega)]; simp
def tab2 : List Int := [0, 65, 127, 128, 169, 191, 192, 193, 194, 195, 223, 224, 226, 130, 172, 237, 160, 159, 239, 240, 152, 244, 143, 144, 245, 255, 10]
theorem bytes2_l0 (l : List Int) (hl : Bytes l) (hs : l.length < 140737488355328) : ∀ (d i : Nat) (acc : List Int), i + d = min l.length 60 → Bytes acc → acc.length = i →
    ∃ m, Bytes m ∧ m.length ≤ 60 ∧ ∀ k, d < k → PX.redactorlaw02_Bytes.l0 k l tab2 acc (i : Int) = some m := by
  intro d
  induction d with
  | zero =>
    intro i acc hi ha hi2
    refine ⟨acc, ha, by omega, fun k hk => ?_⟩
    obtain ⟨k, rfl⟩ : ∃ m, k = m + 1 := ⟨k - 1, by omega⟩
    simp only [PX.redactorlaw02_Bytes.l0]
    by_cases h : (i : Int) < (l.length : Int)
    · rw [if_pos h, if_neg (by omega)]
    · rw [if_neg h]
  | succ d ih =>
    intro i acc hi ha hi2
    have hb := rd_bytes hl (i : Int)
    have et : (tab2.length : Int) = 27 := rfl
    have em : Int.tmod (wrap64 (rd l i)) (tab2.length : Int) = rd l i % 27 := by
      rw [w64 (by omega) (by omega), et, Int.tmod_eq_emod_of_nonneg (by omega)]
    have ht : Bytes tab2 := by unfold Bytes tab2; decide
    obtain ⟨m, hm, hm2, h⟩ := ih (i + 1) (acc ++ [rd tab2 (rd l i % 27)]) (by omega) (ha.append (Bytes.cons (rd_bytes ht _).1 (rd_bytes ht _).2 Bytes.nil)) (by rw [List.length_append]; simp; omega)
    refine ⟨m, hm, hm2, fun k hk => ?_⟩
    obtain ⟨k, rfl⟩ : ∃ m, k = m + 1 := ⟨k - 1, by omega⟩
    have hk2 := h k (by omega)
    have ew : wrap64 ((i : Int) + 1) = ((i + 1 : Nat) : Int) := by rw [w64 (by omega) (by omega)]; omega
    simp only [PX.redactorlaw02_Bytes.l0]
    rw [em, et, ew]
    clear em et ht h ew hm hm2 ih ha hl
    have hb1 := hb.1
    clear hb
    rw [if_pos (by omega), if_pos (by omega), if_pos (by omega), if_neg (by omega), if_pos (by omega), if_pos (by omega), if_pos (by omega)]
    exact hk2
/-- The choices' bytes. -/
theorem bytes2_f (l : List Int) (hl : Bytes l) (hs : l.length < 140737488355328) : ∃ m, Bytes m ∧ m.length ≤ 60 ∧ ∀ k, 60 < k → PX.redactorlaw02_Bytes.f k l = some m := by
  obtain ⟨m, h1, h2, h⟩ := bytes2_l0 l hl hs (min l.length 60) 0 [] (by omega) Bytes.nil rfl
  exact ⟨m, h1, h2, fun k hk => h k (by omega)⟩
def tab3 : List Int := [0, 65, 215, 216, 219, 220, 223, 224, 255, 254, 61, 10]
theorem bytes3_l0 (l : List Int) (hl : Bytes l) (hs : l.length < 140737488355328) : ∀ (d i : Nat) (acc : List Int), i + d = min l.length 60 → Bytes acc → acc.length = i →
    ∃ m, Bytes m ∧ m.length ≤ 60 ∧ ∀ k, d < k → PX.redactorlaw03_Bytes.l0 k l tab3 acc (i : Int) = some m := by
  intro d
  induction d with
  | zero =>
    intro i acc hi ha hi2
    refine ⟨acc, ha, by omega, fun k hk => ?_⟩
    obtain ⟨k, rfl⟩ : ∃ m, k = m + 1 := ⟨k - 1, by omega⟩
    simp only [PX.redactorlaw03_Bytes.l0]
    by_cases h : (i : Int) < (l.length : Int)
    · rw [if_pos h, if_neg (by omega)]
    · rw [if_neg h]
  | succ d ih =>
    intro i acc hi ha hi2
    have hb := rd_bytes hl (i : Int)
    have et : (tab3.length : Int) = 12 := rfl
    have em : Int.tmod (wrap64 (rd l i)) (tab3.length : Int) = rd l i % 12 := by
      rw [w64 (by omega) (by omega), et, Int.tmod_eq_emod_of_nonneg (by omega)]
    have ht : Bytes tab3 := by unfold Bytes tab3; decide
    obtain ⟨m, hm, hm2, h⟩ := ih (i + 1) (acc ++ [rd tab3 (rd l i % 12)]) (by omega) (ha.append (Bytes.cons (rd_bytes ht _).1 (rd_bytes ht _).2 Bytes.nil)) (by rw [List.length_append]; simp; omega)
    refine ⟨m, hm, hm2, fun k hk => ?_⟩
    obtain ⟨k, rfl⟩ : ∃ m, k = m + 1 := ⟨k - 1, by omega⟩
    have hk2 := h k (by omega)
    have ew : wrap64 ((i : Int) + 1) = ((i + 1 : Nat) : Int) := by rw [w64 (by omega) (by omega)]; omega
    simp only [PX.redactorlaw03_Bytes.l0]
    rw [em, et, ew]
    clear em et ht h ew hm hm2 ih ha hl
    have hb1 := hb.1
    clear hb
    rw [if_pos (by omega), if_pos (by omega), if_pos (by omega), if_neg (by omega), if_pos (by omega), if_pos (by omega), if_pos (by omega)]
    exact hk2
/-- The choices' bytes. -/
theorem bytes3_f (l : List Int) (hl : Bytes l) (hs : l.length < 140737488355328) : ∃ m, Bytes m ∧ m.length ≤ 60 ∧ ∀ k, 60 < k → PX.redactorlaw03_Bytes.f k l = some m := by
  obtain ⟨m, h1, h2, h⟩ := bytes3_l0 l hl hs (min l.length 60) 0 [] (by omega) Bytes.nil rfl
  exact ⟨m, h1, h2, fun k hk => h k (by omega)⟩

theorem bytes_be : Bytes [254, 255] := by intro x hx; simp at hx; omega
theorem bytes_le' : Bytes [255, 254] := by intro x hx; simp at hx; omega
theorem bytes4_f (l : List Int) (a : Int) (hl : Bytes l) (hs : l.length < 140737488355328) : ∃ m, Bytes m ∧ m.length ≤ 62 ∧ ∀ k, 60 < k → PX.redactorlaw04_Bytes.f k l a = some m := by
  obtain ⟨m2, a1, a2, a3⟩ := bytes2_f l hl hs
  obtain ⟨m3, b1, b2, b3⟩ := bytes3_f l hl hs
  unfold PX.redactorlaw04_Bytes.f
  by_cases h0 : Int.tmod a 4 = 0
  · exact ⟨m2, a1, by omega, fun k hk => by rw [if_pos h0, a3 k hk]; rfl⟩
  · by_cases h1 : Int.tmod a 4 = 1
    · exact ⟨[254, 255] ++ m3, bytes_be.append b1, by rw [List.length_append]; simp only [List.length_cons, List.length_nil]; omega, fun k hk => by
        rw [if_neg h0, if_pos h1, b3 k hk]
        simp only [Option.bind_some]
        rw [if_pos (by simp only [List.length_cons, List.length_nil]; omega)]⟩
    · by_cases h2 : Int.tmod a 4 = 2
      · exact ⟨[255, 254] ++ m3, bytes_le'.append b1, by rw [List.length_append]; simp only [List.length_cons, List.length_nil]; omega, fun k hk => by
          rw [if_neg h0, if_neg h1, if_pos h2, b3 k hk]
          simp only [Option.bind_some]
          rw [if_pos (by simp only [List.length_cons, List.length_nil]; omega)]⟩
      · exact ⟨m3, b1, by omega, fun k hk => by rw [if_neg h0, if_neg h1, if_neg h2, b3 k hk]; rfl⟩
#print axioms bytes4_f
end Go.Proofs.YtcofbakhhcgbfaaDoor.Utf
