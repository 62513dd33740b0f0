/- What the printed functions of package utf8 come to, in plain words: Decode is 'dec8', Encode is 'enc' where every cell is right. Conditions: bytes are bytes, lists are shorter than Go's bound. -/
import Derived.Test.YtcofbakhhcgbfaaDoorPureDec
import Derived.Test.YtcofbakhhcgbfaaDoorPD1
import Derived.Test.YtcofbakhhcgbfaaDoorPM4
import Derived.Test.YtcofbakhhcgbfaaDoorPM3
import Derived.Test.YtcofbakhhcgbfaaDoorPM2
import Derived.Laws.BitsLemmas
import Derived.Test.YtcofbakhhcgbfaaDoorExtDecodeC
import Derived.Test.YtcofbakhhcgbfaaDoorExtEncodeC
import Derived.Test.YtcofbakhhcgbfaaDoorExtNamed
import Derived.Test.YtcofbakhhcgbfaaDoorExtWith
import Derived.Test.YtcofbakhhcgbfaaDoorExtKnown
namespace Go.Proofs.YtcofbakhhcgbfaaDoor.Utf
open Go.RowKit Go.Proofs.YtcofbakhhcgbfaaDoorW.PrintWords Go.Proofs.YtcofbakhhcgbfaaDoorW.PrintLast Go.Proofs.YtcofbakhhcgbfaaDoorW.PrintMore
set_option linter.unusedVariables false

theorem w64 {i : Int} (h0 : -9223372036854775808 ≤ i) (h : i < 9223372036854775808) : wrap64 i = i := by unfold wrap64; omega
theorem w32 {i : Int} (h0 : -2147483648 ≤ i) (h : i < 2147483648) : wrap32 i = i := by unfold wrap32; omega
theorem not_i32 (a : Int) (h0 : -2147483648 ≤ a) (h1 : a < 2147483648) : Go.bits .xor .i32 (-1) a = -1 - a := by
  have e : (BitVec.ofInt 32 (-1) ^^^ BitVec.ofInt 32 a) = ~~~ BitVec.ofInt 32 a := by
    have : BitVec.ofInt 32 (-1) = BitVec.allOnes 32 := by decide
    rw [this, BitVec.allOnes_xor]
  show IntKind.i32.wrap ((BitVec.ofInt 32 (-1) ^^^ BitVec.ofInt 32 a).toNat : Int) = -1 - a
  rw [e, BitVec.toNat_not, IntKind.wrap_i32]
  have h2 : ((BitVec.ofInt 32 a).toNat : Int) = a % 4294967296 := by rw [BitVec.toNat_ofInt]; omega
  have h3 : (BitVec.ofInt 32 a).toNat < 2 ^ 32 := (BitVec.ofInt 32 a).isLt
  omega

/-! ### Decode -/
theorem rune_f {l : List Int} (h : Bytes l) : PD.utf8_DecodeRune.f l = some (decP l) := if_pos h
theorem pd_escape_f (b : Int) (h0 : 0 ≤ b) (h1 : b < 256) : PD.cell_Escape.f b = some (-1 - b) := by
  unfold PD.cell_Escape.f
  rw [w32 (by omega) (by omega), not_i32 _ (by omega) (by omega)]
theorem decode_l0 : ∀ (d k : Nat) (l acc : List Int), Bytes l → l.length ≤ d → d < k → acc.length + l.length < 35184372088832 → PD.utf8_Decode.l0 k l acc = some (acc ++ dec8 l)
  | _, k, [], acc, _, _, hk, _ => by
    obtain ⟨k, rfl⟩ : ∃ m, k = m + 1 := ⟨k - 1, by omega⟩
    simp only [PD.utf8_Decode.l0]
    rw [if_neg (by simp), decode_nil, List.append_nil]
  | 0, k, x :: t, acc, _, hd, _, _ => by simp at hd
  | d + 1, k, x :: t, acc, h, hd, hk, hl => by
    obtain ⟨k, rfl⟩ : ∃ m, k = m + 1 := ⟨k - 1, by omega⟩
    have hx := h.head
    simp only [List.length_cons] at hd hl
    simp only [PD.utf8_Decode.l0]
    rw [if_pos (by simp only [List.length_cons]; omega), rune_f h, Option.bind_some, decode_cons]
    rcases decP_cases h with ⟨e, e1⟩ | ⟨c, w, e, hn, e1, w1, w2, hc, hr, hs⟩
    · rw [e, e1]
      have hm := decode_l0 d k t (acc ++ [-1 - x]) h.tail (by omega) (by omega) (by rw [List.length_append]; simp; omega)
      show (if (65533 : Int) = 65533 then _ else _) = _
      rw [if_pos rfl, if_pos rfl, if_pos (by simp only [List.length_cons]; omega), rd0, pd_escape_f x hx.1 hx.2, Option.bind_some, if_pos (by omega), if_pos (by decide), if_pos (by simp only [List.length_cons]; omega)]
      show PD.utf8_Decode.l0 k t (acc ++ [-1 - x]) = _
      rw [hm]
      simp
    · rw [e, e1]
      simp only [List.length_cons] at w2
      have e2 : ((w : Int)).toNat = w := by omega
      have hdr : (x :: t).drop w = t.drop (w - 1) := by
        obtain ⟨m, rfl⟩ : ∃ m, w = m + 1 := ⟨w - 1, by omega⟩
        rfl
      have hm := decode_l0 d k (t.drop (w - 1)) (acc ++ [c]) (h.tail.drop _) (by rw [List.length_drop]; omega) (by omega) (by rw [List.length_append, List.length_drop]; simp; omega)
      have hb : ∀ y : Int, (if acc.length < 35184372088832 then (if 0 ≤ (w : Int) then (if (w : Int) ≤ (((x :: t).length : Nat) : Int) then PD.utf8_Decode.l0 k ((x :: t).drop ((w : Int)).toNat) (acc ++ [c]) else none) else none) else none) = some (acc ++ c :: dec8 (t.drop (w - 1))) := by
        intro y
        rw [if_pos (by omega), if_pos (by omega), if_pos (by simp only [List.length_cons]; omega), e2, hdr, hm]
        simp
      by_cases c1 : c = 65533
      · have c2 : ¬ ((w : Int) = 1) := by omega
        subst c1
        show (if (65533 : Int) = 65533 then _ else _) = _
        rw [if_pos rfl, if_neg c2]
        exact hb 0
      · show (if c = 65533 then _ else _) = _
        rw [if_neg c1]
        exact hb 0
theorem decode_f (k : Nat) (l : List Int) (h : Bytes l) (hk : l.length < k) (hl : l.length < 35184372088832) : PD.utf8_Decode.f k l = some (dec8 l) := by
  show PD.utf8_Decode.l0 k l [] = _
  rw [decode_l0 l.length k l [] h (Nat.le_refl _) hk (by simp; omega)]
  rfl

/-! ### Encode -/
theorem right_f (c : Int) : PM.cell_Right.f c = some (decide (Right c)) := by
  unfold PM.cell_Right.f
  by_cases h1 : c ≥ -256
  · rw [if_pos h1]
    by_cases h2 : c ≤ 1114111
    · rw [if_pos h2]
      by_cases h3 : c < 55296
      · rw [if_pos h3, decide_eq_true (show Right c by unfold Right; omega)]
      · rw [if_neg h3]
        congr 1
        rw [decide_eq_decide]
        unfold Right
        omega
    · rw [if_neg h2, decide_eq_false (show ¬ Right c by unfold Right; omega)]
  · rw [if_neg h1, decide_eq_false (show ¬ Right c by unfold Right; omega)]
theorem byte_f (c : Int) (h : -256 ≤ c) : PM.cell_Byte.f c = some (if c < 0 then (-1 - c, true) else (0, false)) := by
  unfold PM.cell_Byte.f
  by_cases h1 : c ≥ 0
  · rw [if_pos h1, if_neg (by omega)]
  · rw [if_neg h1, if_neg (by omega), if_pos (by omega), not_i32 _ (by omega) (by omega)]
    have e : (-1 - c) % 256 = -1 - c := by omega
    rw [e]
theorem append_f (k : Nat) (acc : List Int) (c : Int) (h0 : 0 ≤ c) (h : Right c) (hk : 1 ≤ k) (hl : acc.length + 4 < 140737488355328) : PM.utf8_AppendRune.f k acc c = some (acc ++ seq1 c) := by
  obtain ⟨_, h1, h2⟩ := h
  obtain ⟨k, rfl⟩ : ∃ m, k = m + 1 := ⟨k - 1, by omega⟩
  have em : c % 4294967296 = c := by omega
  unfold PM.utf8_AppendRune.f seq1
  rw [em, if_neg (show ¬ c < 0 by omega)]
  by_cases k1 : c < 128
  · rw [if_pos (by omega), if_pos k1, if_pos (by omega)]
    have e : c % 256 = c := by omega
    rw [e]
  · rw [if_neg (by omega), if_neg k1]
    unfold PM.utf8_appendRuneNonASCII.f
    rw [em]
    by_cases k2 : c < 2048
    · have e : c / 64 % 256 = c / 64 := by omega
      rw [if_pos (by omega), if_pos k2, Option.bind_some, e, u8_or192 _ (by omega) (by omega)]
      rw [if_pos (by simp; omega), Option.bind_some]
    · rw [if_neg (by omega), if_neg k2]
      by_cases k3 : c < 65536
      · have e : c / 4096 % 256 = c / 4096 := by omega
        have e3 : PM.utf8_appendRuneNonASCII.j0 (k + 1) acc c c true = some (acc ++ [224 + c / 4096, 128 + c / 64 % 64, 128 + c % 64]) := by
          simp only [PM.utf8_appendRuneNonASCII.j0]
          rw [if_pos trivial, Option.bind_some, e, u8_or224 _ (by omega) (by omega), if_pos (by simp; omega)]
        rw [if_pos k3]
        by_cases k4 : c < 55296
        · rw [if_pos k4, decide_eq_true k4, e3, Option.bind_some]
        · rw [if_neg k4, if_pos (by omega), decide_eq_true (by omega), e3, Option.bind_some]
      · have e : c / 262144 % 256 = c / 262144 := by omega
        rw [if_neg k3, if_neg (by omega), if_pos (by omega), decide_eq_false (by omega)]
        simp only [PM.utf8_appendRuneNonASCII.j0]
        rw [if_neg (by simp), if_pos (by omega), if_pos (by omega), Option.bind_some, e, u8_or240 _ (by omega) (by omega), if_pos (by simp; omega), Option.bind_some]

theorem drop_rd (l : List Int) (i : Nat) (h : i < l.length) : l.drop i = rd l i :: l.drop (i + 1) := by
  rw [List.drop_eq_getElem_cons h]
  unfold rd
  simp [List.getElem?_eq_getElem h]

theorem encode_l0 : ∀ (d k : Nat) (acc l : List Int) (i : Nat), i + d = l.length → d < k → 1 ≤ d ∨ d = 0 → acc.length + 4 * d < 140737488355328 → l.length < 140737488355328 →
    PM.utf8_Encode.l0 k acc l (l.length : Int) (i : Int) = some (if ∀ c ∈ l.drop i, Right c then (acc ++ enc (l.drop i), 0) else ([], 10)) := by
  intro d
  induction d with
  | zero =>
    intro k acc l i hi hk _ hl hl2
    obtain ⟨k, rfl⟩ : ∃ m, k = m + 1 := ⟨k - 1, by omega⟩
    have e : l.drop i = [] := List.drop_eq_nil_of_le (by omega)
    simp only [PM.utf8_Encode.l0]
    rw [if_neg (by omega), e, if_pos (fun c hc => by cases hc), enc_nil, List.append_nil]
  | succ d ih =>
    intro k acc l i hi hk _ hl hl2
    obtain ⟨k, rfl⟩ : ∃ m, k = m + 1 := ⟨k - 1, by omega⟩
    have hlt : i < l.length := by omega
    have e := drop_rd l i hlt
    have ew : wrap64 ((i : Int) + 1) = ((i + 1 : Nat) : Int) := by rw [w64 (by omega) (by omega)]; omega
    simp only [PM.utf8_Encode.l0]
    rw [if_pos (by omega), if_pos (by omega), if_pos (by omega), right_f, Option.bind_some, e, ew]
    by_cases hr : Right (rd l i)
    · have hr' := hr
      obtain ⟨hr0, _⟩ := hr'
      rw [decide_eq_true hr, if_pos rfl, byte_f _ hr0, Option.bind_some]
      have step : ∀ acc2 : List Int, acc2 = acc ++ seq1 (rd l i) → PM.utf8_Encode.l0 k acc2 l (l.length : Int) ((i + 1 : Nat) : Int) = some (if ∀ c ∈ rd l i :: l.drop (i + 1), Right c then (acc ++ enc (rd l i :: l.drop (i + 1)), 0) else ([], 10)) := by
        rintro acc2 rfl
        have hs := seq1_len (rd l i)
        rw [ih k (acc ++ seq1 (rd l i)) l (i + 1) (by omega) (by omega) (by omega) (by rw [List.length_append]; omega) hl2, enc_cons]
        congr 1
        by_cases hall : ∀ c ∈ l.drop (i + 1), Right c
        · rw [if_pos hall, if_pos (fun c hc => (List.mem_cons.1 hc).elim (fun e => e ▸ hr) (hall c)), List.append_assoc]
        · rw [if_neg hall, if_neg (fun h => hall (fun c hc => h c (List.mem_cons_of_mem _ hc)))]
      by_cases hn : rd l i < 0
      · rw [if_pos hn]
        rw [if_pos rfl, if_pos (by omega)]
        refine step _ ?_
        unfold seq1
        rw [if_pos hn]
      · rw [if_neg hn]
        rw [if_neg (by simp), append_f k acc (rd l i) (by omega) hr (by omega) (by omega), Option.bind_some]
        exact step _ rfl
    · rw [decide_eq_false hr, if_neg (by simp), if_neg (fun h => hr (h _ List.mem_cons_self))]
theorem encode_f (k : Nat) (l : List Int) (hk : l.length + 1 < k) (hl : 4 * l.length < 140737488355328) : PM.utf8_Encode.f k l = some (if ∀ c ∈ l, Right c then (enc l, 0) else ([], 10)) := by
  unfold PM.utf8_Encode.f
  have := encode_l0 l.length k [] l 0 (by omega) (by omega) (by omega) (by simp; omega) (by omega)
  rw [show ((0 : Nat) : Int) = 0 from rfl] at this
  rw [this]
  simp
theorem encode_right (k : Nat) (l : List Int) (hk : l.length + 1 < k) (hl : 4 * l.length < 140737488355328) (h : ∀ c ∈ l, Right c) : PM.utf8_Encode.f k l = some (enc l, 0) := by rw [encode_f k l hk hl, if_pos h]

#print axioms encode_f
#print axioms decode_f
end Go.Proofs.YtcofbakhhcgbfaaDoor.Utf

/- UTF-16 in plain words: 'dec16' and 'enc16', that what is decoded is encoded to the same bytes, and that scalars below d800 are decoded to the same cells; and that the printed functions of package utf16 are these. Conditions: bytes are bytes, lists are shorter than Go's bound. -/
namespace Go.Proofs.YtcofbakhhcgbfaaDoor.Utf
open Go.RowKit Go.Proofs.YtcofbakhhcgbfaaDoorW.PrintWords Go.Proofs.YtcofbakhhcgbfaaDoorW.PrintLast Go.Proofs.YtcofbakhhcgbfaaDoorW.PrintMore
set_option linter.unusedVariables false

def unit (big : Bool) (a b : Int) : Int := if big = true then a * 256 + b else b * 256 + a
def put (big : Bool) (u : Int) : List Int := if big = true then [u / 256 % 256, u % 256] else [u % 256, u / 256 % 256]
def seq16 (big : Bool) (c : Int) : List Int := if c < 0 then [-1 - c] else if c < 65536 then put big c else put big (55296 + (c - 65536) / 1024) ++ put big (56320 + (c - 65536) % 1024)
def enc16 (big : Bool) (l : List Int) : List Int := l.flatMap (seq16 big)
theorem enc16_nil (big : Bool) : enc16 big [] = [] := rfl
theorem enc16_cons (big : Bool) (c : Int) (l : List Int) : enc16 big (c :: l) = seq16 big c ++ enc16 big l := by simp [enc16]
theorem enc16_append (big : Bool) (a b : List Int) : enc16 big (a ++ b) = enc16 big a ++ enc16 big b := by simp [enc16]
/-- A pair's second half. -/
def low (u v : Int) : Bool := decide (u < 56320 ∧ 56320 ≤ v ∧ v < 57344)
/-- The first cells, and how many bytes they take. -/
def st (big : Bool) : List Int → List Int × Nat
  | x :: y :: r => if unit big x y < 55296 ∨ 57344 ≤ unit big x y then ([unit big x y], 2)
    else match r with
      | z :: w :: _ => if low (unit big x y) (unit big z w) = true then ([65536 + (unit big x y - 55296) * 1024 + (unit big z w - 56320)], 4) else ([-1 - x, -1 - y], 2)
      | _ => ([-1 - x, -1 - y], 2)
  | [x] => ([-1 - x], 1)
  | [] => ([], 1)
def dec16 (big : Bool) : List Int → List Int
  | [] => []
  | x :: t => (st big (x :: t)).1 ++ dec16 big (t.drop ((st big (x :: t)).2 - 1))
termination_by l => l.length
decreasing_by simp only [List.length_drop, List.length_cons]; omega
theorem dec16_nil (big : Bool) : dec16 big [] = [] := by rw [dec16]
theorem dec16_cons (big : Bool) (x : Int) (t : List Int) : dec16 big (x :: t) = (st big (x :: t)).1 ++ dec16 big (t.drop ((st big (x :: t)).2 - 1)) := by rw [dec16]

theorem unit_range (big : Bool) {a b : Int} (ha : 0 ≤ a ∧ a < 256) (hb : 0 ≤ b ∧ b < 256) : 0 ≤ unit big a b ∧ unit big a b < 65536 := by
  unfold unit; cases big <;> simp <;> omega
theorem put_unit (big : Bool) {a b : Int} (ha : 0 ≤ a ∧ a < 256) (hb : 0 ≤ b ∧ b < 256) : put big (unit big a b) = [a, b] := by
  unfold put unit
  cases big
  · rw [if_neg (by simp), if_neg (by simp)]
    have e1 : (b * 256 + a) % 256 = a := by omega
    have e2 : (b * 256 + a) / 256 % 256 = b := by omega
    rw [e1, e2]
  · rw [if_pos rfl, if_pos rfl]
    have e1 : (a * 256 + b) % 256 = b := by omega
    have e2 : (a * 256 + b) / 256 % 256 = a := by omega
    rw [e1, e2]
/-- What one step says: these cells are right, they are encoded to the bytes taken. -/
theorem st_spec (big : Bool) : ∀ (x : Int) (t : List Int), Bytes (x :: t) → enc16 big (st big (x :: t)).1 = (x :: t).take (st big (x :: t)).2 ∧ (∀ c ∈ (st big (x :: t)).1, Right c) ∧ (st big (x :: t)).1.length ≤ (st big (x :: t)).2 ∧ 1 ≤ (st big (x :: t)).2 ∧ (st big (x :: t)).2 ≤ (x :: t).length := by
  intro x t h
  have hx := h.head
  have esc : ∀ a : Int, 0 ≤ a ∧ a < 256 → seq16 big (-1 - a) = [a] ∧ Right (-1 - a) := fun a ha => by
    unfold seq16 Right
    rw [if_pos (by omega)]
    exact ⟨by congr 1; omega, by omega, by omega, by omega⟩
  rcases t with _ | ⟨y, r⟩
  · refine ⟨?_, ?_, by simp [st], by simp [st], by simp [st]⟩
    · show enc16 big [-1 - x] = [x]
      rw [enc16_cons, (esc x hx).1]; rfl
    · intro c hc
      have : c = -1 - x := by simpa [st] using hc
      rw [this]; exact (esc x hx).2
  have hy := h.tail.head
  have hu := unit_range big hx hy
  have pair : enc16 big [-1 - x, -1 - y] = [x, y] ∧ ∀ c ∈ ([-1 - x, -1 - y] : List Int), Right c := by
    refine ⟨by rw [enc16_cons, enc16_cons, (esc x hx).1, (esc y hy).1]; rfl, ?_⟩
    intro c hc
    rcases List.mem_cons.1 hc with rfl | hc
    · exact (esc x hx).2
    · rcases List.mem_cons.1 hc with rfl | hc
      · exact (esc y hy).2
      · cases hc
  by_cases c1 : unit big x y < 55296 ∨ 57344 ≤ unit big x y
  · have e : st big (x :: y :: r) = ([unit big x y], 2) := if_pos c1
    rw [e]
    refine ⟨?_, ?_, by simp, by simp, by simp⟩
    · show enc16 big [unit big x y] = [x, y]
      rw [enc16_cons]
      unfold seq16
      rw [if_neg (by omega), if_pos (by omega), put_unit big hx hy]; rfl
    · intro c hc
      have : c = unit big x y := by simpa using hc
      rw [this]; unfold Right; omega
  · rcases r with _ | ⟨z, _ | ⟨w, r⟩⟩
    · have e : st big [x, y] = ([-1 - x, -1 - y], 2) := if_neg c1
      rw [e]
      exact ⟨pair.1, pair.2, by simp, by simp, by simp⟩
    · have e : st big [x, y, z] = ([-1 - x, -1 - y], 2) := if_neg c1
      rw [e]
      exact ⟨pair.1, pair.2, by simp, by simp, by simp⟩
    · have hz := h.tail.tail.head
      have hw := h.tail.tail.tail.head
      have hv := unit_range big hz hw
      by_cases c2 : low (unit big x y) (unit big z w) = true
      · have e : st big (x :: y :: z :: w :: r) = ([65536 + (unit big x y - 55296) * 1024 + (unit big z w - 56320)], 4) := (if_neg c1).trans (if_pos c2)
        have c3 := of_decide_eq_true c2
        rw [e]
        refine ⟨?_, ?_, by simp, by simp, by simp⟩
        · show enc16 big [_] = [x, y, z, w]
          rw [enc16_cons]
          unfold seq16
          have e1 : 55296 + (65536 + (unit big x y - 55296) * 1024 + (unit big z w - 56320) - 65536) / 1024 = unit big x y := by omega
          have e2 : 56320 + (65536 + (unit big x y - 55296) * 1024 + (unit big z w - 56320) - 65536) % 1024 = unit big z w := by omega
          rw [if_neg (by omega), if_neg (by omega), e1, e2, put_unit big hx hy, put_unit big hz hw]; rfl
        · intro c hc
          have : c = 65536 + (unit big x y - 55296) * 1024 + (unit big z w - 56320) := by simpa using hc
          rw [this]; unfold Right; omega
      · have e : st big (x :: y :: z :: w :: r) = ([-1 - x, -1 - y], 2) := (if_neg c1).trans (if_neg c2)
        rw [e]
        exact ⟨pair.1, pair.2, by simp, by simp, by simp⟩
theorem dec16_back (big : Bool) : ∀ (n : Nat) (l : List Int), l.length ≤ n → Bytes l → enc16 big (dec16 big l) = l ∧ (∀ c ∈ dec16 big l, Right c) ∧ (dec16 big l).length ≤ l.length
  | _, [], _, _ => by rw [dec16_nil]; exact ⟨rfl, (fun c hc => by cases hc), Nat.le_refl _⟩
  | 0, x :: t, hn, _ => by simp at hn
  | n + 1, x :: t, hn, h => by
    obtain ⟨s1, s2, s3, s4, s5⟩ := st_spec big x t h
    obtain ⟨m1, m2, m3⟩ := dec16_back big n (t.drop ((st big (x :: t)).2 - 1)) (by rw [List.length_drop]; simp only [List.length_cons] at hn; omega) (h.tail.drop _)
    rw [dec16_cons]
    generalize hq : (st big (x :: t)).2 = q at *
    obtain ⟨q, rfl⟩ : ∃ m, q = m + 1 := ⟨q - 1, by omega⟩
    refine ⟨?_, ?_, ?_⟩
    · rw [enc16_append, s1, m1]
      show x :: t.take q ++ t.drop q = x :: t
      rw [List.cons_append, List.take_append_drop]
    · intro c hc
      rcases List.mem_append.1 hc with hc | hc
      · exact s2 c hc
      · exact m2 c hc
    · rw [List.length_append]
      rw [List.length_drop] at m3
      simp only [List.length_cons] at s5 ⊢
      omega
theorem enc16_dec16 (big : Bool) {l : List Int} (h : Bytes l) : enc16 big (dec16 big l) = l := (dec16_back big l.length l (Nat.le_refl _) h).1
theorem dec16_right (big : Bool) {l : List Int} (h : Bytes l) : ∀ c ∈ dec16 big l, Right c := (dec16_back big l.length l (Nat.le_refl _) h).2.1
theorem dec16_len (big : Bool) {l : List Int} (h : Bytes l) : (dec16 big l).length ≤ l.length := (dec16_back big l.length l (Nat.le_refl _) h).2.2
/-- Cells below d800 that are no escapes. -/
theorem dec16_enc16 (big : Bool) : ∀ l : List Int, (∀ c ∈ l, 0 ≤ c ∧ c < 55296) → dec16 big (enc16 big l) = l
  | [], _ => by rw [enc16_nil, dec16_nil]
  | c :: l, h => by
    have hc := h c List.mem_cons_self
    have ih := dec16_enc16 big l (fun d hd => h d (List.mem_cons_of_mem _ hd))
    rw [enc16_cons]
    have e : seq16 big c = put big c := by unfold seq16; rw [if_neg (by omega), if_pos (by omega)]
    rw [e]
    obtain ⟨a, b, hp, hu⟩ : ∃ a b, put big c = [a, b] ∧ unit big a b = c := by
      unfold put unit
      cases big
      · exact ⟨_, _, rfl, by simp; omega⟩
      · exact ⟨_, _, rfl, by simp; omega⟩
    rw [hp]
    show dec16 big (a :: b :: enc16 big l) = _
    have e2 : st big (a :: b :: enc16 big l) = ([c], 2) := by rw [← hu]; exact if_pos (by omega)
    rw [dec16_cons, e2]
    show [c] ++ dec16 big (enc16 big l) = _
    rw [ih]; rfl
#print axioms dec16_enc16
#print axioms enc16_dec16
end Go.Proofs.YtcofbakhhcgbfaaDoor.Utf

/- The printed functions of package utf16 are 'dec16' and 'enc16'. Conditions: bytes are bytes, cells are right, lists are shorter than Go's bound. -/
namespace Go.Proofs.YtcofbakhhcgbfaaDoor.Utf
open Go.RowKit Go.Proofs.YtcofbakhhcgbfaaDoorW.PrintWords Go.Proofs.YtcofbakhhcgbfaaDoorW.PrintLast Go.Proofs.YtcofbakhhcgbfaaDoorW.PrintMore
set_option linter.unusedVariables false

theorem or8 {a b : Int} (ha : 0 ≤ a ∧ a < 256) (hb : 0 ≤ b ∧ b < 256) : Go.bits .or .i32 (wrap32 (wrap32 a * 256)) (wrap32 b) = a * 256 + b := by
  rw [w32 (i := a) (by omega) (by omega), w32 (i := b) (by omega) (by omega), w32 (by omega) (by omega)]
  exact bits_join .i32 31 (by decide) wraps_i32 8 _ _ (by omega) (by omega) (by omega) (by omega) (by omega) (by omega)
theorem unit_f (big : Bool) {x y : Int} (r : List Int) (hx : 0 ≤ x ∧ x < 256) (hy : 0 ≤ y ∧ y < 256) : PM.utf16_order_unit.f big (x :: y :: r) = some (unit big x y) := by
  unfold PM.utf16_order_unit.f unit
  have l0 : (0 : Int) < (((x :: y :: r).length : Nat) : Int) := by simp only [List.length_cons]; omega
  have l1 : (1 : Int) < (((x :: y :: r).length : Nat) : Int) := by simp only [List.length_cons]; omega
  cases big
  · rw [if_neg Bool.false_ne_true, if_pos l1, if_pos l0, if_neg Bool.false_ne_true, rd0, rd1, or8 hy hx]
  · rw [if_pos rfl, if_pos rfl, if_pos l0, if_pos l1, rd0, rd1, or8 hx hy]
theorem esc_f (b : Int) (h : 0 ≤ b ∧ b < 256) : PM.cell_Escape.f b = some (-1 - b) := by
  unfold PM.cell_Escape.f
  rw [w32 (by omega) (by omega), not_i32 _ (by omega) (by omega)]

/-- The pair of escapes that j2 and j3 lay. -/
theorem two_f (k : Nat) (big : Bool) (x y : Int) (r acc : List Int) (hx : 0 ≤ x ∧ x < 256) (hy : 0 ≤ y ∧ y < 256) (hl : acc.length + 2 < 35184372088832) :
    (if (0 : Int) < (((x :: y :: r).length : Nat) : Int) then ((PM.cell_Escape.f (rd (x :: y :: r) 0)).bind fun t150 => (if (1 : Int) < (((x :: y :: r).length : Nat) : Int) then ((PM.cell_Escape.f (rd (x :: y :: r) 1)).bind fun t152 => ((some (([t150, t152] : List Int) : List Int)).bind fun y153 => (if acc.length + y153.length < 35184372088832 then (if (2 : Int) ≤ (((x :: y :: r).length : Nat) : Int) then (PM.utf16_Decode.l0 k ((x :: y :: r).drop 2) big (acc ++ y153)) else (none)) else (none)))) else (none))) else (none)) = PM.utf16_Decode.l0 k r big (acc ++ [-1 - x, -1 - y]) := by
  have l0 : (0 : Int) < (((x :: y :: r).length : Nat) : Int) := by simp only [List.length_cons]; omega
  have l1 : (1 : Int) < (((x :: y :: r).length : Nat) : Int) := by simp only [List.length_cons]; omega
  have l2 : (2 : Int) ≤ (((x :: y :: r).length : Nat) : Int) := by simp only [List.length_cons]; omega
  rw [if_pos l0, rd0, esc_f x hx, Option.bind_some, if_pos l1, rd1, esc_f y hy, Option.bind_some, Option.bind_some, if_pos (by simpa using hl), if_pos l2]
  rfl

theorem decode16_l0 (big : Bool) : ∀ (d k : Nat) (l acc : List Int), Bytes l → l.length ≤ d → 4 * d < k → acc.length + l.length < 35184372088832 → PM.utf16_Decode.l0 k l big acc = some (acc ++ dec16 big l)
  | d, k, [], acc, _, _, hk, _ => by
    obtain ⟨k, rfl⟩ : ∃ m, k = m + 1 := ⟨k - 1, by omega⟩
    simp only [PM.utf16_Decode.l0]
    rw [if_neg (by simp), if_neg (by simp), dec16_nil, List.append_nil]
  | 0, k, x :: t, acc, _, hd, _, _ => by simp at hd
  | d + 1, k, [x], acc, h, hd, hk, hl => by
    obtain ⟨k, rfl⟩ : ∃ m, k = m + 1 := ⟨k - 1, by omega⟩
    simp only [PM.utf16_Decode.l0]
    simp only [List.length_cons, List.length_nil] at hl
    rw [if_neg (by simp), if_pos (by simp), if_pos (by simp), rd0, esc_f x h.head, Option.bind_some, if_pos (by omega), dec16_cons]
    show some (acc ++ [-1 - x]) = some (acc ++ ([-1 - x] ++ dec16 big []))
    rw [dec16_nil, List.append_nil]
  | d + 1, k, x :: y :: r, acc, h, hd, hk, hl => by
    obtain ⟨k, rfl⟩ : ∃ m, k = m + 1 + 1 + 1 + 1 := ⟨k - 4, by omega⟩
    have hx := h.head
    have hy := h.tail.head
    have hu := unit_range big hx hy
    simp only [List.length_cons] at hd hl
    have l2 : (2 : Int) ≤ (((x :: y :: r).length : Nat) : Int) := by simp only [List.length_cons]; omega
    have two : ∀ (k2 : Nat) (z : List Int), 4 * d < k2 → acc.length + z.length + r.length < 35184372088832 → PM.utf16_Decode.l0 k2 r big (acc ++ z) = some (acc ++ (z ++ dec16 big r)) := fun k2 z hk2 hz => by
      rw [decode16_l0 big d k2 r (acc ++ z) h.tail.tail (by omega) hk2 (by rw [List.length_append]; omega), List.append_assoc]
    rw [dec16_cons]
    simp only [PM.utf16_Decode.l0]
    rw [if_pos (by simp only [List.length_cons]; omega), unit_f big r hx hy, Option.bind_some]
    by_cases c1 : unit big x y < 55296 ∨ 57344 ≤ unit big x y
    · have e : st big (x :: y :: r) = ([unit big x y], 2) := if_pos c1
      have go : PM.utf16_Decode.j1 (k + 1 + 1 + 1) (x :: y :: r) big acc (unit big x y) true = some (acc ++ ([unit big x y] ++ dec16 big r)) := by
        simp only [PM.utf16_Decode.j1]
        rw [if_pos trivial, if_pos (by omega), if_pos l2]
        exact two (k + 1 + 1) [unit big x y] (by omega) (by simp only [List.length_cons, List.length_nil]; omega)
      rw [e]
      show _ = some (acc ++ ([unit big x y] ++ dec16 big r))
      by_cases c2 : unit big x y < 55296
      · rw [if_pos c2]; exact go
      · rw [if_neg c2, decide_eq_true (show unit big x y ≥ 57344 by omega)]; exact go
    · rw [if_neg (show ¬ unit big x y < 55296 by omega), decide_eq_false (show ¬ unit big x y ≥ 57344 by omega)]
      simp only [PM.utf16_Decode.j1]
      rw [if_neg (by simp)]
      have esc2 : PM.utf16_Decode.j2 (k + 1 + 1) (x :: y :: r) big acc (unit big x y) false = some (acc ++ ([-1 - x, -1 - y] ++ dec16 big r)) := by
        simp only [PM.utf16_Decode.j2]
        rw [if_neg (by simp), two_f (k + 1) big x y r acc hx hy (by omega)]
        exact two (k + 1) [-1 - x, -1 - y] (by omega) (by simp only [List.length_cons, List.length_nil]; omega)
      rcases r with _ | ⟨z, _ | ⟨w, r⟩⟩
      · have e : st big [x, y] = ([-1 - x, -1 - y], 2) := if_neg c1
        rw [e]
        show _ = some (acc ++ ([-1 - x, -1 - y] ++ dec16 big []))
        by_cases c2 : unit big x y < 56320
        · rw [if_pos c2, decide_eq_false (by simp)]; exact esc2
        · rw [if_neg c2]; exact esc2
      · have e : st big [x, y, z] = ([-1 - x, -1 - y], 2) := if_neg c1
        rw [e]
        show _ = some (acc ++ ([-1 - x, -1 - y] ++ dec16 big [z]))
        by_cases c2 : unit big x y < 56320
        · rw [if_pos c2, decide_eq_false (by simp)]; exact esc2
        · rw [if_neg c2]; exact esc2
      · have hz := h.tail.tail.head
        have hw := h.tail.tail.tail.head
        have hv := unit_range big hz hw
        by_cases c2 : unit big x y < 56320
        · rw [if_pos c2, decide_eq_true (by simp only [List.length_cons]; omega)]
          simp only [PM.utf16_Decode.j2]
          rw [if_pos trivial, if_pos l2]
          show ((PM.utf16_order_unit.f big (z :: w :: r)).bind _) = _
          rw [unit_f big r hz hw, Option.bind_some]
          have esc3 : PM.utf16_Decode.j3 (k + 1) (x :: y :: z :: w :: r) big acc (unit big x y) (unit big z w) false = some (acc ++ ([-1 - x, -1 - y] ++ dec16 big (z :: w :: r))) := by
            simp only [PM.utf16_Decode.j3]
            rw [if_neg (by simp), two_f k big x y (z :: w :: r) acc hx hy (by simp only [List.length_cons] at hl; omega)]
            exact two k [-1 - x, -1 - y] (by omega) (by simp only [List.length_cons, List.length_nil] at hl ⊢; omega)
          by_cases c3 : unit big z w ≥ 56320
          · rw [if_pos c3]
            by_cases c4 : unit big z w < 57344
            · have e : st big (x :: y :: z :: w :: r) = ([65536 + (unit big x y - 55296) * 1024 + (unit big z w - 56320)], 4) := (if_neg c1).trans (if_pos (decide_eq_true ⟨c2, c3, c4⟩))
              rw [e, decide_eq_true c4]
              simp only [List.length_cons] at hd hl
              simp only [PM.utf16_Decode.j3]
              rw [if_pos trivial, if_pos (by omega), if_pos (by simp only [List.length_cons]; omega)]
              have ew : wrap32 (wrap32 (65536 + wrap32 (wrap32 (unit big x y - 55296) * 1024)) + wrap32 (unit big z w - 56320)) = 65536 + (unit big x y - 55296) * 1024 + (unit big z w - 56320) := by
                rw [w32 (i := unit big x y - 55296) (by omega) (by omega), w32 (i := unit big z w - 56320) (by omega) (by omega), w32 (i := (unit big x y - 55296) * 1024) (by omega) (by omega), w32 (i := 65536 + (unit big x y - 55296) * 1024) (by omega) (by omega), w32 (by omega) (by omega)]
              rw [ew]
              show PM.utf16_Decode.l0 k r big _ = some (acc ++ ([_] ++ dec16 big r))
              rw [decode16_l0 big d k r _ h.tail.tail.tail.tail (by omega) (by omega) (by rw [List.length_append]; simp only [List.length_cons, List.length_nil]; omega), List.append_assoc]
            · have e : st big (x :: y :: z :: w :: r) = ([-1 - x, -1 - y], 2) := (if_neg c1).trans (if_neg (fun q => c4 (of_decide_eq_true q).2.2))
              rw [e, decide_eq_false c4]; exact esc3
          · have e : st big (x :: y :: z :: w :: r) = ([-1 - x, -1 - y], 2) := (if_neg c1).trans (if_neg (fun q => c3 (of_decide_eq_true q).2.1))
            rw [if_neg c3, e]; exact esc3
        · have e : st big (x :: y :: z :: w :: r) = ([-1 - x, -1 - y], 2) := (if_neg c1).trans (if_neg (fun q => c2 (of_decide_eq_true q).1))
          rw [if_neg c2, e]; exact esc2
theorem decode16_f (k : Nat) (l : List Int) (big : Bool) (h : Bytes l) (hk : 4 * l.length < k) (hl : l.length < 35184372088832) : PM.utf16_Decode.f k l big = some (dec16 big l) := by
  unfold PM.utf16_Decode.f
  rw [decode16_l0 big l.length k l [] h (Nat.le_refl _) hk (by simpa using hl)]
  rfl

/-! ### Encode -/
theorem and10 (a : Int) (h : 0 ≤ a ∧ a < 2147483648) : Go.bits .and .i32 a 1023 = a % 1024 := bits_mask .i32 31 (by decide) wraps_i32 10 (by decide) a h.1 (by omega)
theorem put_len (big : Bool) (u : Int) : (put big u).length = 2 := by unfold put; cases big <;> rfl
theorem put_f (big : Bool) (acc : List Int) (u : Int) (hl : acc.length + 2 < 140737488355328) : PM.utf16_order_put.f big acc u = some (acc ++ put big u) := by
  unfold PM.utf16_order_put.f put
  cases big
  · rw [if_neg Bool.false_ne_true, Option.bind_some, if_pos (by simpa using hl), if_neg Bool.false_ne_true]
  · rw [if_pos rfl, Option.bind_some, if_pos (by simpa using hl), if_pos rfl]
theorem seq16_len (big : Bool) (c : Int) : (seq16 big c).length ≤ 4 := by
  unfold seq16
  split
  · simp
  · split
    · rw [put_len]; omega
    · rw [List.length_append, put_len, put_len]; omega
theorem encode16_l0 (big : Bool) : ∀ (d k : Nat) (acc l : List Int) (i : Nat), i + d = l.length → d < k → acc.length + 4 * d < 140737488355328 → l.length < 140737488355328 → (∀ c ∈ l.drop i, Right c) →
    PM.utf16_Encode.l0 k big acc l (l.length : Int) (i : Int) = some (acc ++ enc16 big (l.drop i), 0) := by
  intro d
  induction d with
  | zero =>
    intro k acc l i hi hk hl hl2 hr
    obtain ⟨k, rfl⟩ : ∃ m, k = m + 1 := ⟨k - 1, by omega⟩
    have e : l.drop i = [] := List.drop_eq_nil_of_le (by omega)
    simp only [PM.utf16_Encode.l0]
    rw [if_neg (by omega), e, enc16_nil, List.append_nil]
  | succ d ih =>
    intro k acc l i hi hk hl hl2 hr
    obtain ⟨k, rfl⟩ : ∃ m, k = m + 1 := ⟨k - 1, by omega⟩
    have hlt : i < l.length := by omega
    have e := drop_rd l i hlt
    have ew : wrap64 ((i : Int) + 1) = ((i + 1 : Nat) : Int) := by rw [w64 (by omega) (by omega)]; omega
    rw [e] at hr
    have hc := hr _ List.mem_cons_self
    obtain ⟨h0, h1, h2⟩ := id hc
    have step : ∀ acc2 : List Int, acc2 = acc ++ seq16 big (rd l i) → PM.utf16_Encode.l0 k big acc2 l (l.length : Int) ((i + 1 : Nat) : Int) = some (acc ++ enc16 big (rd l i :: l.drop (i + 1)), 0) := by
      rintro acc2 rfl
      have hs := seq16_len big (rd l i)
      rw [ih k (acc ++ seq16 big (rd l i)) l (i + 1) (by omega) (by omega) (by rw [List.length_append]; omega) hl2 (fun c q => hr c (List.mem_cons_of_mem _ q)), enc16_cons, List.append_assoc]
    simp only [PM.utf16_Encode.l0]
    rw [if_pos (by omega), if_pos (by omega), if_pos (by omega), byte_f _ h0, Option.bind_some, right_f, Option.bind_some, decide_eq_true hc, if_pos rfl, ew, e]
    by_cases hn : rd l i < 0
    · rw [if_pos hn]
      show (if true = true then _ else _) = _
      rw [if_pos rfl, if_pos (by omega)]
      refine step _ ?_
      unfold seq16
      rw [if_pos hn]
    · rw [if_neg hn]
      show (if false = true then _ else _) = _
      rw [if_neg Bool.false_ne_true]
      by_cases hb : rd l i < 65536
      · rw [if_pos hb, put_f big acc _ (by omega), Option.bind_some]
        refine step _ ?_
        unfold seq16
        rw [if_neg hn, if_pos hb]
      · rw [if_neg hb]
        have e1 : wrap32 (55296 + wrap32 (rd l i - 65536) / 1024) = 55296 + (rd l i - 65536) / 1024 := by
          rw [w32 (i := rd l i - 65536) (by omega) (by omega), w32 (by omega) (by omega)]
        have e2 : wrap32 (56320 + Go.bits .and .i32 (wrap32 (rd l i - 65536)) 1023) = 56320 + (rd l i - 65536) % 1024 := by
          rw [w32 (i := rd l i - 65536) (by omega) (by omega), and10 _ (by omega), w32 (by omega) (by omega)]
        rw [e1, e2, put_f big acc _ (by omega), Option.bind_some, put_f big _ _ (by rw [List.length_append, put_len]; omega), Option.bind_some]
        refine step _ ?_
        unfold seq16
        rw [if_neg hn, if_neg hb, List.append_assoc]
theorem encode16_f (k : Nat) (l : List Int) (big : Bool) (hk : l.length < k) (hl : 4 * l.length < 140737488355328) (h : ∀ c ∈ l, Right c) : PM.utf16_Encode.f k l big = some (enc16 big l, 0) := by
  unfold PM.utf16_Encode.f
  have := encode16_l0 big l.length k [] l 0 (by omega) hk (by simpa using hl) (by omega) (by simpa using h)
  rw [show ((0 : Nat) : Int) = 0 from rfl] at this
  rw [this]
  simp
#print axioms encode16_f
#print axioms decode16_f
end Go.Proofs.YtcofbakhhcgbfaaDoor.Utf

/- What package codec's functions come to, in plain words: Decode of each encoding, Encode of right cells, that bytes decoded and encoded are as they were. Conditions: bytes are bytes, lists are short. -/
namespace Go.Proofs.YtcofbakhhcgbfaaDoor.Utf
open Go.RowKit Go.Proofs.YtcofbakhhcgbfaaDoorW.PrintWords Go.Proofs.YtcofbakhhcgbfaaDoorW.PrintLast Go.Proofs.YtcofbakhhcgbfaaDoorW.PrintMore
open EC
set_option linter.unusedVariables false

theorem good_right (c : Int) : good c = decide (Right c) := by
  unfold good
  by_cases h1 : c ≥ -256
  · rw [if_pos h1]
    by_cases h2 : c ≤ 1114111
    · rw [if_pos h2]
      by_cases h3 : c < 55296
      · rw [if_pos h3, decide_eq_true (show Right c by unfold Right; omega)]
      · rw [if_neg h3, decide_eq_decide]
        unfold Right
        omega
    · rw [if_neg h2, decide_eq_false (show ¬ Right c by unfold Right; omega)]
  · rw [if_neg h1, decide_eq_false (show ¬ Right c by unfold Right; omega)]
theorem all_good {l : List Int} (h : ∀ c ∈ l, Right c) : l.all good = true := by
  rw [List.all_eq_true]
  intro c hc
  rw [good_right, decide_eq_true (h c hc)]
theorem bytes_right {l : List Int} (h : Bytes l) : ∀ c ∈ l, Right c := fun c hc => by
  have := h c hc
  unfold Right
  omega

/-! ### Decode -/
theorem dec_1 (k : Nat) (l : List Int) (h : Bytes l) (hk : l.length < k) (hl : l.length < 35184372088832) : PX.codec_Decode.f k 1 l = some (1, false, false, dec8 l, 0) := by
  unfold PX.codec_Decode.f
  rw [if_pos rfl, decode_f k l h hk hl]
  rfl
theorem dec_3 (k : Nat) (l : List Int) (h : Bytes l) (hl : l.length < 35184372088832) : PX.codec_Decode.f k 3 l = some (3, false, false, l, 0) := by
  unfold PX.codec_Decode.f
  rw [if_neg (by decide), if_neg (by decide), if_pos rfl, if_pos ⟨hl, h⟩]
theorem dec_0 (k : Nat) : PX.codec_Decode.f k 0 [] = some (0, false, false, [], 1) := rfl
theorem strs {a b : List Int} (h : a = b) : ((strOfNums a).toList == (strOfNums b).toList) = true := by rw [h]; exact beq_self_eq_true _
theorem pfx_mark (m r : List Int) : pfx (m ++ r) m = true := by
  unfold pfx
  rw [if_pos (by rw [List.length_append]; omega)]
  exact strs (by simp)
theorem strs_bytes : ∀ {a b : List Int}, Bytes a → Bytes b → (strOfNums a).toList = (strOfNums b).toList → a = b := by
  intro a b ha hb h
  have e : ∀ l : List Int, (strOfNums l).toList = l.map (fun x => UInt8.ofNat x.toNat) := by
    intro l
    unfold strOfNums
    simp [ByteArray.toList_eq]
  rw [e, e] at h
  have hl : a.length = b.length := by have := congrArg List.length h; simpa using this
  refine List.ext_getElem hl (fun i h1 h2 => ?_)
  have q := congrArg (fun l : List UInt8 => l[i]?) h
  simp only [List.getElem?_map, List.getElem?_eq_getElem h1, List.getElem?_eq_getElem h2, Option.map_some, Option.some.injEq] at q
  have x1 := ha _ (List.getElem_mem h1)
  have x2 := hb _ (List.getElem_mem h2)
  have q2 := congrArg UInt8.toNat q
  simp only [UInt8.toNat_ofNat'] at q2
  omega
theorem pfx_back {l m : List Int} (hl : Bytes l) (hm : Bytes m) (h : pfx l m = true) : ∃ r, l = m ++ r := by
  unfold pfx at h
  by_cases q : m.length ≤ l.length
  · rw [if_pos q] at h
    have := strs_bytes (hl.take _) hm (beq_iff_eq.1 h)
    exact ⟨l.drop m.length, (List.take_append_drop m.length l).symm.trans (by rw [this])⟩
  · rw [if_neg q] at h; cases h
theorem bom_be : Bytes [254, 255] := by intro x hx; simp at hx; omega
theorem bom_le : Bytes [255, 254] := by intro x hx; simp at hx; omega
/-- The mark of an order. -/
def bom (big : Bool) : List Int := if big = true then [254, 255] else [255, 254]
theorem bom_bytes (big : Bool) : Bytes (bom big) := by unfold bom; cases big; exact bom_le; exact bom_be
theorem mark_f (big : Bool) : PM.codec_mark.f big = some (bom big) := by unfold PM.codec_mark.f bom; cases big <;> rfl
/-- Bytes begin with the mark that is told, or with none. -/
theorem s2_cases {l : List Int} (h : Bytes l) : (∃ r, l = bom (s2 l).1 ++ r ∧ (s2 l).2 = true) ∨ (s2 l = (true, false) ∧ pfx l [254, 255] = false ∧ pfx l [255, 254] = false) := by
  unfold s2
  by_cases h1 : pfx l [255, 254] = true
  · rw [if_pos h1]
    obtain ⟨r, hr⟩ := pfx_back h bom_le h1
    exact .inl ⟨r, hr, rfl⟩
  · rw [if_neg h1]
    unfold s1
    by_cases h2 : pfx l [254, 255] = true
    · rw [if_pos h2]
      obtain ⟨r, hr⟩ := pfx_back h bom_be h2
      exact .inl ⟨r, hr, rfl⟩
    · rw [if_neg h2]
      exact .inr ⟨rfl, by simpa using h2, by simpa using h1⟩
theorem s2_mark (big : Bool) (r : List Int) : s2 (bom big ++ r) = (big, true) := by
  unfold bom
  cases big
  · unfold s2
    rw [if_neg (show ¬ (false = true) by decide), if_pos (pfx_mark _ _)]
  · unfold s2 s1
    rw [if_pos rfl]
    have : ¬ pfx ([254, 255] ++ r) [255, 254] = true := by
      unfold pfx
      rw [if_pos (by simp)]
      have e : ([254, 255] ++ r).take ([255, 254] : List Int).length = [254, 255] := rfl
      rw [e]
      intro q
      exact absurd (strs_bytes bom_be bom_le (beq_iff_eq.1 q)) (by decide)
    rw [if_neg this, if_pos (pfx_mark _ _)]
theorem dec_2_mark (k : Nat) (big : Bool) (r : List Int) (h : Bytes r) (hk : 4 * r.length < k) (hl : r.length < 35184372088832) : PX.codec_Decode.f k 2 (bom big ++ r) = some (2, big, true, dec16 big r, 0) := by
  have e2 : (bom big ++ r).drop 2 = r := by unfold bom; cases big <;> rfl
  have e3 : 2 ≤ (bom big ++ r).length := by unfold bom; cases big <;> simp
  unfold PX.codec_Decode.f
  rw [if_neg (by decide), if_pos rfl, s2_mark]
  simp only [if_true]
  rw [if_neg (fun q => q.2 e3), e2, decode16_f k r big h hk hl]
  rfl
theorem dec_2_none (k : Nat) (l : List Int) (h : Bytes l) (hs : s2 l = (true, false)) (hk : 4 * l.length < k) (hl : l.length < 35184372088832) : PX.codec_Decode.f k 2 l = some (2, true, false, dec16 true l, 0) := by
  unfold PX.codec_Decode.f
  rw [if_neg (by decide), if_pos rfl, hs]
  rw [if_neg (fun q => by cases q.1), if_neg (show ¬ (false = true) by decide), decode16_f k l true h hk hl]
  rfl

/-! ### Encode -/
theorem enc_1 (k : Nat) (l : List Int) (h : ∀ c ∈ l, Right c) (hk : l.length + 1 < k) (hl : l.length < 35184372088832) : PX.codec_Encode.f k 1 false false l = some (enc l, 0) := by
  unfold PX.codec_Encode.f
  rw [if_pos hl, if_pos (.inl rfl), if_neg (by simp), if_neg (by rw [all_good h]; decide), if_pos rfl]
  unfold PM.codec_ways_2.f
  rw [encode_right k l hk (by omega) h]
  rfl
theorem enc_2 (k : Nat) (big bm : Bool) (l : List Int) (h : ∀ c ∈ l, Right c) (hk : l.length < k) (hl : l.length < 1000000) : PX.codec_Encode.f k 2 big bm l = some ((if bm = true then bom big else []) ++ enc16 big l, 0) := by
  have el : (enc16 big l).length ≤ 4 * l.length := by
    clear hk hl h
    induction l with
    | nil => simp [enc16_nil]
    | cons c l ih =>
      rw [enc16_cons, List.length_append, List.length_cons]
      have := seq16_len big c
      omega
  have eb : (bom big).length = 2 := by unfold bom; cases big <;> rfl
  unfold PX.codec_Encode.f
  rw [if_pos (by omega), if_pos (.inr (.inl rfl)), if_neg (by simp), if_neg (by rw [all_good h]; decide), if_neg (by decide), if_pos rfl]
  unfold PM.codec_encode16.f
  rw [encode16_f k l big hk (by omega) h, Option.bind_some]
  rw [if_pos rfl]
  cases bm
  · rw [if_neg (show ¬ (false = true) by decide), if_neg (show ¬ (false = true) by decide)]
    rfl
  · rw [if_pos rfl, mark_f, Option.bind_some, if_pos rfl, if_pos (by rw [eb]; show 2 + (enc16 big l).length < _; omega)]
theorem latin_l0 : ∀ (d k : Nat) (acc l : List Int) (i : Nat), i + d = l.length → d < k → acc.length + d < 140737488355328 → l.length < 140737488355328 → Bytes (l.drop i) →
    PM.codec_encode1.l0 k acc l (l.length : Int) (i : Int) = some (acc ++ l.drop i, 0) := by
  intro d
  induction d with
  | zero =>
    intro k acc l i hi hk hl hl2 hr
    obtain ⟨k, rfl⟩ : ∃ m, k = m + 1 := ⟨k - 1, by omega⟩
    have e : l.drop i = [] := List.drop_eq_nil_of_le (by omega)
    simp only [PM.codec_encode1.l0]
    rw [if_neg (by omega), e, List.append_nil]
  | succ d ih =>
    intro k acc l i hi hk hl hl2 hr
    obtain ⟨k, rfl⟩ : ∃ m, k = m + 1 := ⟨k - 1, by omega⟩
    have hlt : i < l.length := by omega
    have e := drop_rd l i hlt
    have ew : wrap64 ((i : Int) + 1) = ((i + 1 : Nat) : Int) := by rw [w64 (by omega) (by omega)]; omega
    rw [e] at hr
    have hc := hr.head
    simp only [PM.codec_encode1.l0]
    rw [if_pos (by omega), if_pos (by omega), if_pos (by omega), byte_f _ (by omega), Option.bind_some, if_neg (show ¬ rd l i < 0 by omega)]
    show (if false = true then _ else _) = _
    have em : rd l i % 256 = rd l i := by omega
    rw [if_neg (show ¬ (false = true) by decide), if_neg (by omega), if_pos (by omega), ew, em, ih k (acc ++ [rd l i]) l (i + 1) (by omega) (by omega) (by rw [List.length_append]; simp only [List.length_cons, List.length_nil]; omega) hl2 hr.tail, e]
    simp
theorem enc_3 (k : Nat) (l : List Int) (h : Bytes l) (hk : l.length < k) (hl : l.length < 35184372088832) : PX.codec_Encode.f k 3 false false l = some (l, 0) := by
  unfold PX.codec_Encode.f
  rw [if_pos hl, if_pos (.inr (.inr rfl)), if_neg (by simp), if_neg (by rw [all_good (bytes_right h)]; decide), if_neg (by decide), if_neg (by decide)]
  unfold PM.codec_encode1.f
  have := latin_l0 l.length k [] l 0 (by omega) hk (by simp; omega) (by omega) (by simpa using h)
  rw [show ((0 : Nat) : Int) = 0 from rfl] at this
  rw [this]
  rfl

/-- Bytes of any encoding, decoded, and encoded again. -/
theorem back (n : Int) (hn : n = 1 ∨ n = 2 ∨ n = 3) (l : List Int) (h : Bytes l) (hl : l.length < 100000) : ∃ (b1 b2 : Bool) (c : List Int), ∀ k, 4 * l.length + 2 < k → PX.codec_Decode.f k n l = some (n, b1, b2, c, 0) ∧ PX.codec_Encode.f k n b1 b2 c = some (l, 0) := by
  rcases hn with rfl | rfl | rfl
  · refine ⟨false, false, dec8 l, fun k hk => ⟨dec_1 k l h (by omega) (by omega), ?_⟩⟩
    have := decode_len h
    rw [enc_1 k (dec8 l) (decode_right h) (by omega) (by omega), enc_decode h]
  · rcases s2_cases h with ⟨r, hr, _⟩ | ⟨hs, _⟩
    · have hb : Bytes r := fun x hx => h x (by rw [hr]; exact List.mem_append_right _ hx)
      obtain ⟨big, hbig⟩ : ∃ b, b = (s2 l).1 := ⟨_, rfl⟩
      rw [← hbig] at hr
      clear hbig
      subst hr
      rw [List.length_append] at hl
      refine ⟨big, true, dec16 big r, fun k hk => ?_⟩
      rw [List.length_append] at hk
      have := dec16_len big hb
      refine ⟨dec_2_mark k big r hb (by omega) (by omega), ?_⟩
      rw [enc_2 k big true _ (dec16_right big hb) (by omega) (by omega), enc16_dec16 big hb, if_pos rfl]
    · refine ⟨true, false, dec16 true l, fun k hk => ?_⟩
      have := dec16_len true h
      refine ⟨dec_2_none k l h hs (by omega) (by omega), ?_⟩
      rw [enc_2 k true false _ (dec16_right true h) (by omega) (by omega), enc16_dec16 true h]
      rfl
  · exact ⟨false, false, l, fun k hk => ⟨dec_3 k l h (by omega), enc_3 k l h (by omega) (by omega)⟩⟩
theorem named_f (s : ByteArray) : PX.codec_Named.f s = some (PX.named s) := rfl
theorem wf_u8 {x : Int} (h : (Lit.int .u8 x).wf = true) : 0 ≤ x ∧ x < 256 := by
  simp [Lit.wf, IntKind.min, IntKind.max, IntKind.signed, IntKind.bits] at h; omega
theorem wf_i32 {x : Int} (h : (Lit.int .i32 x).wf = true) : -2147483648 ≤ x ∧ x < 2147483648 := by
  simp [Lit.wf, IntKind.min, IntKind.max, IntKind.signed, IntKind.bits] at h; omega
theorem wf_bytes {l : List Int} (h : ∀ x ∈ l, (Lit.int .u8 x).wf = true) : Bytes l := fun x hx => wf_u8 (h x hx)
theorem with_f (a : Int) (b1 b2 : Bool) (l0 l1 : List Int) (h : l1.length < 35184372088832) : PX.codec_With.f a b1 b2 l0 l1 = some (a, b1, b2, l1) := by unfold PX.codec_With.f; rw [if_pos h]
#print axioms back
end Go.Proofs.YtcofbakhhcgbfaaDoor.Utf

/- The chapter's examples hold (redactorlaw04.known, as the print KN tells it). No conditions. -/
namespace Go.Proofs.YtcofbakhhcgbfaaDoor.Utf
open Go.RowKit Go.Proofs.YtcofbakhhcgbfaaDoorW.PrintWords Go.Proofs.YtcofbakhhcgbfaaDoorW.PrintLast Go.Proofs.YtcofbakhhcgbfaaDoorW.PrintMore
open EC
theorem known_k (k : Nat) (hk : 20 < k) : KN.redactorlaw04_known.f k = some true := by
  have hb : Bytes [97, 0] := by intro x hx; simp at hx; omega
  have d1 : PX.codec_Decode.f k 2 [255, 254, 97, 0] = some (2, false, true, [97], 0) := by
    have := dec_2_mark k false [97, 0] hb (by simp; omega) (by simp)
    have e : dec16 false [97, 0] = [97] := by
      have := dec16_enc16 false [97] (by intro c hc; simp at hc; omega)
      exact this
    rw [e] at this
    exact this
  have d2 : PX.codec_Encode.f k 3 false false [256] = some ([], 11) := by
    obtain ⟨k, rfl⟩ : ∃ m, k = m + 2 := ⟨k - 2, by omega⟩
    unfold PX.codec_Encode.f
    rw [if_pos (by simp), if_pos (.inr (.inr rfl)), if_neg (by simp), if_neg (by decide), if_neg (by decide), if_neg (by decide)]
    unfold PM.codec_encode1.f
    simp only [PM.codec_encode1.l0]
    rfl
  unfold KN.redactorlaw04_known.f
  rw [d1, Option.bind_some, d2, Option.bind_some, dec_0, Option.bind_some, named_f, named_f]
  rfl
theorem known_x (k : Nat) (hk : 20 < k) : KX.redactorlaw04_known.f k = some true := KX.redactorlaw04_known.told k (known_k k hk)
#print axioms known_x
end Go.Proofs.YtcofbakhhcgbfaaDoor.Utf
