/- What the printed functions of package utf8 come to, in plain words: Decode is 'dec8', Encode is 'enc' where every cell is right. Conditions: bytes are bytes, lists are shorter than Go's bound. -/
import Derived.Test.YtcofbakhhcgbfaaDoorPureDec
import Derived.Test.YtcofbakhhcgbfaaDoorPD1
import Derived.Test.YtcofbakhhcgbfaaDoorPM4
import Derived.Test.YtcofbakhhcgbfaaDoorPM3
import Derived.Test.YtcofbakhhcgbfaaDoorPM2
import Derived.Laws.BitsLemmas
namespace Go.Proofs.YtcofbakhhcgbfaaDoor.Utf
open Go.RowKit Go.Proofs.YtcofbakhhcgbfaaDoorW.PrintWords Go.Proofs.YtcofbakhhcgbfaaDoorW.PrintLast Go.Proofs.YtcofbakhhcgbfaaDoorW.PrintMore
set_option linter.unusedVariables false

theorem w64 {i : Int} (h0 : -9223372036854775808 ≤ i) (h : i < 9223372036854775808) : wrap64 i = i := by unfold wrap64; omega
theorem w32 {i : Int} (h0 : -2147483648 ≤ i) (h : i < 2147483648) : wrap32 i = i := by unfold wrap32; omega
theorem not_i32 (a : Int) (h0 : -2147483648 ≤ a) (h1 : a < 2147483648) : Go.bits .xor .i32 (-1) a = -1 - a := by
  have e : (BitVec.ofInt 32 (-1) ^^^ BitVec.ofInt 32 a) = ~~~ BitVec.ofInt 32 a := by
    have : BitVec.ofInt 32 (-1) = BitVec.allOnes 32 := by decide
    rw [this, BitVec.allOnes_xor]
  show IntKind.i32.wrap ((BitVec.ofInt 32 (-1) ^^^ BitVec.ofInt 32 a).toNat : Int) = -1 - a
  rw [e, BitVec.toNat_not, IntKind.wrap_i32]
  have h2 : ((BitVec.ofInt 32 a).toNat : Int) = a % 4294967296 := by rw [BitVec.toNat_ofInt]; omega
  have h3 : (BitVec.ofInt 32 a).toNat < 2 ^ 32 := (BitVec.ofInt 32 a).isLt
  omega

/-! ### Decode -/
theorem rune_f {l : List Int} (h : Bytes l) : PD.utf8_DecodeRune.f l = some (decP l) := if_pos h
theorem pd_escape_f (b : Int) (h0 : 0 ≤ b) (h1 : b < 256) : PD.cell_Escape.f b = some (-1 - b) := by
  unfold PD.cell_Escape.f
  rw [w32 (by omega) (by omega), not_i32 _ (by omega) (by omega)]
theorem decode_l0 : ∀ (d k : Nat) (l acc : List Int), Bytes l → l.length ≤ d → d < k → acc.length + l.length < 35184372088832 → PD.utf8_Decode.l0 k l acc = some (acc ++ dec8 l)
  | _, k, [], acc, _, _, hk, _ => by
    obtain ⟨k, rfl⟩ : ∃ m, k = m + 1 := ⟨k - 1, by omega⟩
    simp only [PD.utf8_Decode.l0]
    rw [if_neg (by simp), decode_nil, List.append_nil]
  | 0, k, x :: t, acc, _, hd, _, _ => by simp at hd
  | d + 1, k, x :: t, acc, h, hd, hk, hl => by
    obtain ⟨k, rfl⟩ : ∃ m, k = m + 1 := ⟨k - 1, by omega⟩
    have hx := h.head
    simp only [List.length_cons] at hd hl
    simp only [PD.utf8_Decode.l0]
    rw [if_pos (by simp only [List.length_cons]; omega), rune_f h, Option.bind_some, decode_cons]
    rcases decP_cases h with ⟨e, e1⟩ | ⟨c, w, e, hn, e1, w1, w2, hc, hr, hs⟩
    · rw [e, e1]
      have hm := decode_l0 d k t (acc ++ [-1 - x]) h.tail (by omega) (by omega) (by rw [List.length_append]; simp; omega)
      show (if (65533 : Int) = 65533 then _ else _) = _
      rw [if_pos rfl, if_pos rfl, if_pos (by simp only [List.length_cons]; omega), rd0, pd_escape_f x hx.1 hx.2, Option.bind_some, if_pos (by omega), if_pos (by decide), if_pos (by simp only [List.length_cons]; omega)]
      show PD.utf8_Decode.l0 k t (acc ++ [-1 - x]) = _
      rw [hm]
      simp
    · rw [e, e1]
      simp only [List.length_cons] at w2
      have e2 : ((w : Int)).toNat = w := by omega
      have hdr : (x :: t).drop w = t.drop (w - 1) := by
        obtain ⟨m, rfl⟩ : ∃ m, w = m + 1 := ⟨w - 1, by omega⟩
        rfl
      have hm := decode_l0 d k (t.drop (w - 1)) (acc ++ [c]) (h.tail.drop _) (by rw [List.length_drop]; omega) (by omega) (by rw [List.length_append, List.length_drop]; simp; omega)
      have hb : ∀ y : Int, (if acc.length < 35184372088832 then (if 0 ≤ (w : Int) then (if (w : Int) ≤ (((x :: t).length : Nat) : Int) then PD.utf8_Decode.l0 k ((x :: t).drop ((w : Int)).toNat) (acc ++ [c]) else none) else none) else none) = some (acc ++ c :: dec8 (t.drop (w - 1))) := by
        intro y
        rw [if_pos (by omega), if_pos (by omega), if_pos (by simp only [List.length_cons]; omega), e2, hdr, hm]
        simp
      by_cases c1 : c = 65533
      · have c2 : ¬ ((w : Int) = 1) := by omega
        subst c1
        show (if (65533 : Int) = 65533 then _ else _) = _
        rw [if_pos rfl, if_neg c2]
        exact hb 0
      · show (if c = 65533 then _ else _) = _
        rw [if_neg c1]
        exact hb 0
theorem decode_f (k : Nat) (l : List Int) (h : Bytes l) (hk : l.length < k) (hl : l.length < 35184372088832) : PD.utf8_Decode.f k l = some (dec8 l) := by
  show PD.utf8_Decode.l0 k l [] = _
  rw [decode_l0 l.length k l [] h (Nat.le_refl _) hk (by simp; omega)]
  rfl

/-! ### Encode -/
theorem right_f (c : Int) : PM.cell_Right.f c = some (decide (Right c)) := by
  unfold PM.cell_Right.f
  by_cases h1 : c ≥ -256
  · rw [if_pos h1]
    by_cases h2 : c ≤ 1114111
    · rw [if_pos h2]
      by_cases h3 : c < 55296
      · rw [if_pos h3, decide_eq_true (show Right c by unfold Right; omega)]
      · rw [if_neg h3]
        congr 1
        rw [decide_eq_decide]
        unfold Right
        omega
    · rw [if_neg h2, decide_eq_false (show ¬ Right c by unfold Right; omega)]
  · rw [if_neg h1, decide_eq_false (show ¬ Right c by unfold Right; omega)]
theorem byte_f (c : Int) (h : -256 ≤ c) : PM.cell_Byte.f c = some (if c < 0 then (-1 - c, true) else (0, false)) := by
  unfold PM.cell_Byte.f
  by_cases h1 : c ≥ 0
  · rw [if_pos h1, if_neg (by omega)]
  · rw [if_neg h1, if_neg (by omega), if_pos (by omega), not_i32 _ (by omega) (by omega)]
    have e : (-1 - c) % 256 = -1 - c := by omega
    rw [e]
theorem append_f (k : Nat) (acc : List Int) (c : Int) (h0 : 0 ≤ c) (h : Right c) (hk : 1 ≤ k) (hl : acc.length + 4 < 140737488355328) : PM.utf8_AppendRune.f k acc c = some (acc ++ seq1 c) := by
  obtain ⟨_, h1, h2⟩ := h
  obtain ⟨k, rfl⟩ : ∃ m, k = m + 1 := ⟨k - 1, by omega⟩
  have em : c % 4294967296 = c := by omega
  unfold PM.utf8_AppendRune.f seq1
  rw [em, if_neg (show ¬ c < 0 by omega)]
  by_cases k1 : c < 128
  · rw [if_pos (by omega), if_pos k1, if_pos (by omega)]
    have e : c % 256 = c := by omega
    rw [e]
  · rw [if_neg (by omega), if_neg k1]
    unfold PM.utf8_appendRuneNonASCII.f
    rw [em]
    by_cases k2 : c < 2048
    · have e : c / 64 % 256 = c / 64 := by omega
      rw [if_pos (by omega), if_pos k2, Option.bind_some, e, u8_or192 _ (by omega) (by omega)]
      rw [if_pos (by simp; omega), Option.bind_some]
    · rw [if_neg (by omega), if_neg k2]
      by_cases k3 : c < 65536
      · have e : c / 4096 % 256 = c / 4096 := by omega
        have e3 : PM.utf8_appendRuneNonASCII.j0 (k + 1) acc c c true = some (acc ++ [224 + c / 4096, 128 + c / 64 % 64, 128 + c % 64]) := by
          simp only [PM.utf8_appendRuneNonASCII.j0]
          rw [if_pos trivial, Option.bind_some, e, u8_or224 _ (by omega) (by omega), if_pos (by simp; omega)]
        rw [if_pos k3]
        by_cases k4 : c < 55296
        · rw [if_pos k4, decide_eq_true k4, e3, Option.bind_some]
        · rw [if_neg k4, if_pos (by omega), decide_eq_true (by omega), e3, Option.bind_some]
      · have e : c / 262144 % 256 = c / 262144 := by omega
        rw [if_neg k3, if_neg (by omega), if_pos (by omega), decide_eq_false (by omega)]
        simp only [PM.utf8_appendRuneNonASCII.j0]
        rw [if_neg (by simp), if_pos (by omega), if_pos (by omega), Option.bind_some, e, u8_or240 _ (by omega) (by omega), if_pos (by simp; omega), Option.bind_some]

theorem drop_rd (l : List Int) (i : Nat) (h : i < l.length) : l.drop i = rd l i :: l.drop (i + 1) := by
  rw [List.drop_eq_getElem_cons h]
  unfold rd
  simp [List.getElem?_eq_getElem h]

theorem encode_l0 : ∀ (d k : Nat) (acc l : List Int) (i : Nat), i + d = l.length → d < k → 1 ≤ d ∨ d = 0 → acc.length + 4 * d < 140737488355328 → l.length < 140737488355328 →
    PM.utf8_Encode.l0 k acc l (l.length : Int) (i : Int) = some (if ∀ c ∈ l.drop i, Right c then (acc ++ enc (l.drop i), 0) else ([], 10)) := by
  intro d
  induction d with
  | zero =>
    intro k acc l i hi hk _ hl hl2
    obtain ⟨k, rfl⟩ : ∃ m, k = m + 1 := ⟨k - 1, by omega⟩
    have e : l.drop i = [] := List.drop_eq_nil_of_le (by omega)
    simp only [PM.utf8_Encode.l0]
    rw [if_neg (by omega), e, if_pos (fun c hc => by cases hc), enc_nil, List.append_nil]
  | succ d ih =>
    intro k acc l i hi hk _ hl hl2
    obtain ⟨k, rfl⟩ : ∃ m, k = m + 1 := ⟨k - 1, by omega⟩
    have hlt : i < l.length := by omega
    have e := drop_rd l i hlt
    have ew : wrap64 ((i : Int) + 1) = ((i + 1 : Nat) : Int) := by rw [w64 (by omega) (by omega)]; omega
    simp only [PM.utf8_Encode.l0]
    rw [if_pos (by omega), if_pos (by omega), if_pos (by omega), right_f, Option.bind_some, e, ew]
    by_cases hr : Right (rd l i)
    · have hr' := hr
      obtain ⟨hr0, _⟩ := hr'
      rw [decide_eq_true hr, if_pos rfl, byte_f _ hr0, Option.bind_some]
      have step : ∀ acc2 : List Int, acc2 = acc ++ seq1 (rd l i) → PM.utf8_Encode.l0 k acc2 l (l.length : Int) ((i + 1 : Nat) : Int) = some (if ∀ c ∈ rd l i :: l.drop (i + 1), Right c then (acc ++ enc (rd l i :: l.drop (i + 1)), 0) else ([], 10)) := by
        rintro acc2 rfl
        have hs := seq1_len (rd l i)
        rw [ih k (acc ++ seq1 (rd l i)) l (i + 1) (by omega) (by omega) (by omega) (by rw [List.length_append]; omega) hl2, enc_cons]
        congr 1
        by_cases hall : ∀ c ∈ l.drop (i + 1), Right c
        · rw [if_pos hall, if_pos (fun c hc => (List.mem_cons.1 hc).elim (fun e => e ▸ hr) (hall c)), List.append_assoc]
        · rw [if_neg hall, if_neg (fun h => hall (fun c hc => h c (List.mem_cons_of_mem _ hc)))]
      by_cases hn : rd l i < 0
      · rw [if_pos hn]
        rw [if_pos rfl, if_pos (by omega)]
        refine step _ ?_
        unfold seq1
        rw [if_pos hn]
      · rw [if_neg hn]
        rw [if_neg (by simp), append_f k acc (rd l i) (by omega) hr (by omega) (by omega), Option.bind_some]
        exact step _ rfl
    · rw [decide_eq_false hr, if_neg (by simp), if_neg (fun h => hr (h _ List.mem_cons_self))]
theorem encode_f (k : Nat) (l : List Int) (hk : l.length + 1 < k) (hl : 4 * l.length < 140737488355328) : PM.utf8_Encode.f k l = some (if ∀ c ∈ l, Right c then (enc l, 0) else ([], 10)) := by
  unfold PM.utf8_Encode.f
  have := encode_l0 l.length k [] l 0 (by omega) (by omega) (by omega) (by simp; omega) (by omega)
  rw [show ((0 : Nat) : Int) = 0 from rfl] at this
  rw [this]
  simp
theorem encode_right (k : Nat) (l : List Int) (hk : l.length + 1 < k) (hl : 4 * l.length < 140737488355328) (h : ∀ c ∈ l, Right c) : PM.utf8_Encode.f k l = some (enc l, 0) := by rw [encode_f k l hk hl, if_pos h]

#print axioms encode_f
#print axioms decode_f
end Go.Proofs.YtcofbakhhcgbfaaDoor.Utf
