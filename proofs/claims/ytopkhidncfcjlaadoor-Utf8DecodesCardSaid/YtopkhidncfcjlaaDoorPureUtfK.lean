/- The chapter's examples hold, Canonical is 'there and back', and the choices' bytes are bytes, at most sixty. Conditions: lists are shorter than Go's bound. -/
import Derived.Test.YtopkhidncfcjlaaDoorPureUtf
import Derived.Test.YtopkhidncfcjlaaDoorPX2
import Derived.Test.YtopkhidncfcjlaaDoorPX1
namespace Go.Proofs.YtopkhidncfcjlaaDoor.Utf
open Go.RowKit Go.Proofs.YtopkhidncfcjlaaDoorW.PrintWords Go.Proofs.YtopkhidncfcjlaaDoorW.PrintLast Go.Proofs.YtopkhidncfcjlaaDoorW.PrintMore
set_option linter.unusedVariables false

theorem wf_u8 {x : Int} (h : (Lit.int .u8 x).wf = true) : 0 ≤ x ∧ x < 256 := by
  simp [Lit.wf, IntKind.min, IntKind.max, IntKind.signed, IntKind.bits] at h; omega
theorem wf_i32 {x : Int} (h : (Lit.int .i32 x).wf = true) : -2147483648 ≤ x ∧ x < 2147483648 := by
  simp [Lit.wf, IntKind.min, IntKind.max, IntKind.signed, IntKind.bits] at h; omega
theorem wf_u32 {x : Int} (h : (Lit.int .u32 x).wf = true) : 0 ≤ x ∧ x < 4294967296 := by
  simp [Lit.wf, IntKind.min, IntKind.max, IntKind.signed, IntKind.bits] at h; omega
theorem wf_bytes {l : List Int} (h : ∀ x ∈ l, (Lit.int .u8 x).wf = true) : Bytes l := fun x hx => wf_u8 (h x hx)

theorem canonical_f (k : Nat) (l : List Int) (hk : 4 * l.length + 1 < k) (hl : 4 * l.length < 35184372088832) : PX.utf8_Canonical.f k l = some (decide ((∀ c ∈ l, Right c) ∧ dec8 (enc l) = l)) := by
  unfold PX.utf8_Canonical.f
  rw [encode_f k l (by omega) (by omega), Option.bind_some]
  by_cases h : ∀ c ∈ l, Right c
  · have hl2 := enc_len l
    have hb := enc_bytes l h
    have hd := decode_len hb
    rw [if_pos h]
    simp only
    rw [if_pos trivial, decode_f k _ hb (by omega) (by omega), Option.bind_some, equal_f k _ _ (by omega) (by omega), Option.bind_some]
    congr 1
    rw [decide_eq_decide]
    exact ⟨fun x => ⟨h, x⟩, fun x => x.2⟩
  · rw [if_neg h]
    simp only
    rw [if_neg (by decide), decide_eq_false (fun x => h x.1)]
theorem canonical_decode (k : Nat) (l : List Int) (h : Bytes l) (hk : 4 * l.length + 1 < k) (hl : 4 * l.length < 35184372088832) : PX.utf8_Canonical.f k (dec8 l) = some true := by
  have := decode_len h
  rw [canonical_f k _ (by omega) (by omega), decide_eq_true ⟨decode_right h, by rw [enc_decode h]⟩]

theorem known_f (k : Nat) (hk : 20 < k) : PX.redactorlaw02_known.f k = some true := by
  have d1 : dec8 [195, 169, 195] = [233, -196] := by
    rw [decode_cons, show one [195, 169, 195] = (233, 2) by decide]
    show 233 :: dec8 [195] = _
    rw [decode_cons, show one [195] = (-196, 1) by decide]
    show [233, -196] ++ dec8 [] = _
    rw [decode_nil]
    rfl
  have hb : Bytes [195, 169, 195] := fun x hx => by simp only [List.mem_cons, List.not_mem_nil, or_false] at hx; omega
  have c1 : dec8 (enc [-196, -170]) ≠ [-196, -170] := by
    rw [show enc [-196, -170] = [195, 169] by decide, decode_cons, show one [195, 169] = (233, 2) by decide]
    intro h
    injection h with h _
    exact absurd h (by decide)
  unfold PX.redactorlaw02_known.f
  rw [decode_f k _ hb (by simp; omega) (by simp), Option.bind_some, d1]
  rw [encode_f k [233, -196] (by simp; omega) (by simp), encode_f k [55296] (by simp; omega) (by simp), canonical_f k [-196, -170] (by simp; omega) (by simp)]
  rw [if_pos (show ∀ c ∈ ([233, -196] : List Int), Right c by decide), if_neg (show ¬ ∀ c ∈ ([55296] : List Int), Right c by decide), decide_eq_false (fun x => c1 x.2)]
  simp only [Option.bind_some]
  have e1 : (strOfNums (enc [233, -196])).toList = [195, 169, 195] := by rw [ByteArray.toList_eq]; decide
  rw [if_pos (by decide), if_pos (by decide), if_pos (by decide), if_pos (by decide), if_pos (by decide), if_pos e1, if_pos trivial, if_pos trivial]
  rfl

def tab : List Int := [0, 65, 127, 128, 169, 191, 192, 193, 194, 195, 223, 224, 226, 130, 172, 237, 160, 159, 239, 240, 152, 244, 143, 144, 245, 255, 10]
theorem rd_bytes {l : List Int} (h : Bytes l) (i : Int) : 0 ≤ rd l i ∧ rd l i < 256 := by
  unfold rd
  rw [List.getD_eq_getElem?_getD]
  by_cases hi : i.toNat < l.length
  · rw [List.getElem?_eq_getElem hi]; exact h _ (List.getElem_mem hi)
  · rw [List.getElem?_eq_none (by omega)]; simp
theorem bytes_l0 (l : List Int) (hl : Bytes l) (hs : l.length < 140737488355328) : ∀ (d i : Nat) (acc : List Int), i + d = min l.length 60 → Bytes acc → acc.length = i →
    ∃ m, Bytes m ∧ m.length ≤ 60 ∧ ∀ k, d < k → PX.redactorlaw02_Bytes.l0 k l tab acc (i : Int) = some m := by
  intro d
  induction d with
  | zero =>
    intro i acc hi ha hi2
    refine ⟨acc, ha, by omega, fun k hk => ?_⟩
    obtain ⟨k, rfl⟩ : ∃ m, k = m + 1 := ⟨k - 1, by omega⟩
    simp only [PX.redactorlaw02_Bytes.l0]
    by_cases h : (i : Int) < (l.length : Int)
    · rw [if_pos h, if_neg (by omega)]
    · rw [if_neg h]
  | succ d ih =>
    intro i acc hi ha hi2
    have hb := rd_bytes hl (i : Int)
    have et : (tab.length : Int) = 27 := rfl
    have em : Int.tmod (wrap64 (rd l i)) (tab.length : Int) = rd l i % 27 := by
      rw [w64 (by omega) (by omega), et, Int.tmod_eq_emod_of_nonneg (by omega)]
    have ht : Bytes tab := by unfold Bytes tab; decide
    obtain ⟨m, hm, hm2, h⟩ := ih (i + 1) (acc ++ [rd tab (rd l i % 27)]) (by omega) (ha.append (Bytes.cons (rd_bytes ht _).1 (rd_bytes ht _).2 Bytes.nil)) (by rw [List.length_append]; simp; omega)
    refine ⟨m, hm, hm2, fun k hk => ?_⟩
    obtain ⟨k, rfl⟩ : ∃ m, k = m + 1 := ⟨k - 1, by omega⟩
    have hk2 := h k (by omega)
    have ew : wrap64 ((i : Int) + 1) = ((i + 1 : Nat) : Int) := by rw [w64 (by omega) (by omega)]; omega
    simp only [PX.redactorlaw02_Bytes.l0]
    rw [em, et, ew]
    clear em et ht h ew hm hm2 ih ha hl
    have hb1 := hb.1
    clear hb
    rw [if_pos (by omega), if_pos (by omega), if_pos (by omega), if_neg (by omega), if_pos (by omega), if_pos (by omega), if_pos (by omega)]
    exact hk2
/-- The choices' bytes. -/
theorem bytes_f (l : List Int) (hl : Bytes l) (hs : l.length < 140737488355328) : ∃ m, Bytes m ∧ m.length ≤ 60 ∧ ∀ k, 60 < k → PX.redactorlaw02_Bytes.f k l = some m := by
  obtain ⟨m, h1, h2, h⟩ := bytes_l0 l hl hs (min l.length 60) 0 [] (by omega) Bytes.nil rfl
  exact ⟨m, h1, h2, fun k hk => h k (by omega)⟩
#print axioms known_f
#print axioms bytes_f
end Go.Proofs.YtopkhidncfcjlaaDoor.Utf
