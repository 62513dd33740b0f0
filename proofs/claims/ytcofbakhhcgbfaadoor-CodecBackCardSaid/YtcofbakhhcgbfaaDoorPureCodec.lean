/- What package codec's functions come to, in plain words: Decode of each encoding, Encode of right cells, that bytes decoded and encoded are as they were. Conditions: bytes are bytes, lists are short. -/
import Derived.Test.YtcofbakhhcgbfaaDoorPure16F
import Derived.Test.YtcofbakhhcgbfaaDoorExtDecodeC
import Derived.Test.YtcofbakhhcgbfaaDoorExtEncodeC
import Derived.Test.YtcofbakhhcgbfaaDoorExtNamed
import Derived.Test.YtcofbakhhcgbfaaDoorExtWith
namespace Go.Proofs.YtcofbakhhcgbfaaDoor.Utf
open Go.RowKit Go.Proofs.YtcofbakhhcgbfaaDoorW.PrintWords Go.Proofs.YtcofbakhhcgbfaaDoorW.PrintLast Go.Proofs.YtcofbakhhcgbfaaDoorW.PrintMore
open EC
set_option linter.unusedVariables false

theorem good_right (c : Int) : good c = decide (Right c) := by
  unfold good
  by_cases h1 : c ≥ -256
  · rw [if_pos h1]
    by_cases h2 : c ≤ 1114111
    · rw [if_pos h2]
      by_cases h3 : c < 55296
      · rw [if_pos h3, decide_eq_true (show Right c by unfold Right; omega)]
      · rw [if_neg h3, decide_eq_decide]
        unfold Right
        omega
    · rw [if_neg h2, decide_eq_false (show ¬ Right c by unfold Right; omega)]
  · rw [if_neg h1, decide_eq_false (show ¬ Right c by unfold Right; omega)]
theorem all_good {l : List Int} (h : ∀ c ∈ l, Right c) : l.all good = true := by
  rw [List.all_eq_true]
  intro c hc
  rw [good_right, decide_eq_true (h c hc)]
theorem bytes_right {l : List Int} (h : Bytes l) : ∀ c ∈ l, Right c := fun c hc => by
  have := h c hc
  unfold Right
  omega

/-! ### Decode -/
theorem dec_1 (k : Nat) (l : List Int) (h : Bytes l) (hk : l.length < k) (hl : l.length < 35184372088832) : PX.codec_Decode.f k 1 l = some (1, false, false, dec8 l, 0) := by
  unfold PX.codec_Decode.f
  rw [if_pos rfl, decode_f k l h hk hl]
  rfl
theorem dec_3 (k : Nat) (l : List Int) (h : Bytes l) (hl : l.length < 35184372088832) : PX.codec_Decode.f k 3 l = some (3, false, false, l, 0) := by
  unfold PX.codec_Decode.f
  rw [if_neg (by decide), if_neg (by decide), if_pos rfl, if_pos ⟨hl, h⟩]
theorem dec_0 (k : Nat) : PX.codec_Decode.f k 0 [] = some (0, false, false, [], 1) := rfl
theorem strs {a b : List Int} (h : a = b) : ((strOfNums a).toList == (strOfNums b).toList) = true := by rw [h]; exact beq_self_eq_true _
theorem pfx_mark (m r : List Int) : pfx (m ++ r) m = true := by
  unfold pfx
  rw [if_pos (by rw [List.length_append]; omega)]
  exact strs (by simp)
theorem strs_bytes : ∀ {a b : List Int}, Bytes a → Bytes b → (strOfNums a).toList = (strOfNums b).toList → a = b := by
  intro a b ha hb h
  have e : ∀ l : List Int, (strOfNums l).toList = l.map (fun x => UInt8.ofNat x.toNat) := by
    intro l
    unfold strOfNums
    simp [ByteArray.toList_eq]
  rw [e, e] at h
  have hl : a.length = b.length := by have := congrArg List.length h; simpa using this
  refine List.ext_getElem hl (fun i h1 h2 => ?_)
  have q := congrArg (fun l : List UInt8 => l[i]?) h
  simp only [List.getElem?_map, List.getElem?_eq_getElem h1, List.getElem?_eq_getElem h2, Option.map_some, Option.some.injEq] at q
  have x1 := ha _ (List.getElem_mem h1)
  have x2 := hb _ (List.getElem_mem h2)
  have q2 := congrArg UInt8.toNat q
  simp only [UInt8.toNat_ofNat'] at q2
  omega
theorem pfx_back {l m : List Int} (hl : Bytes l) (hm : Bytes m) (h : pfx l m = true) : ∃ r, l = m ++ r := by
  unfold pfx at h
  by_cases q : m.length ≤ l.length
  · rw [if_pos q] at h
    have := strs_bytes (hl.take _) hm (beq_iff_eq.1 h)
    exact ⟨l.drop m.length, (List.take_append_drop m.length l).symm.trans (by rw [this])⟩
  · rw [if_neg q] at h; cases h
theorem bom_be : Bytes [254, 255] := by intro x hx; simp at hx; omega
theorem bom_le : Bytes [255, 254] := by intro x hx; simp at hx; omega
/-- The mark of an order. -/
def bom (big : Bool) : List Int := if big = true then [254, 255] else [255, 254]
theorem bom_bytes (big : Bool) : Bytes (bom big) := by unfold bom; cases big; exact bom_le; exact bom_be
theorem mark_f (big : Bool) : PM.codec_mark.f big = some (bom big) := by unfold PM.codec_mark.f bom; cases big <;> rfl
/-- Bytes begin with the mark that is told, or with none. -/
theorem s2_cases {l : List Int} (h : Bytes l) : (∃ r, l = bom (s2 l).1 ++ r ∧ (s2 l).2 = true) ∨ (s2 l = (true, false) ∧ pfx l [254, 255] = false ∧ pfx l [255, 254] = false) := by
  unfold s2
  by_cases h1 : pfx l [255, 254] = true
  · rw [if_pos h1]
    obtain ⟨r, hr⟩ := pfx_back h bom_le h1
    exact .inl ⟨r, hr, rfl⟩
  · rw [if_neg h1]
    unfold s1
    by_cases h2 : pfx l [254, 255] = true
    · rw [if_pos h2]
      obtain ⟨r, hr⟩ := pfx_back h bom_be h2
      exact .inl ⟨r, hr, rfl⟩
    · rw [if_neg h2]
      exact .inr ⟨rfl, by simpa using h2, by simpa using h1⟩
theorem s2_mark (big : Bool) (r : List Int) : s2 (bom big ++ r) = (big, true) := by
  unfold bom
  cases big
  · unfold s2
    rw [if_neg (show ¬ (false = true) by decide), if_pos (pfx_mark _ _)]
  · unfold s2 s1
    rw [if_pos rfl]
    have : ¬ pfx ([254, 255] ++ r) [255, 254] = true := by
      unfold pfx
      rw [if_pos (by simp)]
      have e : ([254, 255] ++ r).take ([255, 254] : List Int).length = [254, 255] := rfl
      rw [e]
      intro q
      exact absurd (strs_bytes bom_be bom_le (beq_iff_eq.1 q)) (by decide)
    rw [if_neg this, if_pos (pfx_mark _ _)]
theorem dec_2_mark (k : Nat) (big : Bool) (r : List Int) (h : Bytes r) (hk : 4 * r.length < k) (hl : r.length < 35184372088832) : PX.codec_Decode.f k 2 (bom big ++ r) = some (2, big, true, dec16 big r, 0) := by
  have e2 : (bom big ++ r).drop 2 = r := by unfold bom; cases big <;> rfl
  have e3 : 2 ≤ (bom big ++ r).length := by unfold bom; cases big <;> simp
  unfold PX.codec_Decode.f
  rw [if_neg (by decide), if_pos rfl, s2_mark]
  simp only [if_true]
  rw [if_neg (fun q => q.2 e3), e2, decode16_f k r big h hk hl]
  rfl
theorem dec_2_none (k : Nat) (l : List Int) (h : Bytes l) (hs : s2 l = (true, false)) (hk : 4 * l.length < k) (hl : l.length < 35184372088832) : PX.codec_Decode.f k 2 l = some (2, true, false, dec16 true l, 0) := by
  unfold PX.codec_Decode.f
  rw [if_neg (by decide), if_pos rfl, hs]
  rw [if_neg (fun q => by cases q.1), if_neg (show ¬ (false = true) by decide), decode16_f k l true h hk hl]
  rfl

/-! ### Encode -/
theorem enc_1 (k : Nat) (l : List Int) (h : ∀ c ∈ l, Right c) (hk : l.length + 1 < k) (hl : l.length < 35184372088832) : PX.codec_Encode.f k 1 false false l = some (enc l, 0) := by
  unfold PX.codec_Encode.f
  rw [if_pos hl, if_pos (.inl rfl), if_neg (by simp), if_neg (by rw [all_good h]; decide), if_pos rfl]
  unfold PM.codec_ways_2.f
  rw [encode_right k l hk (by omega) h]
  rfl
theorem enc_2 (k : Nat) (big bm : Bool) (l : List Int) (h : ∀ c ∈ l, Right c) (hk : l.length < k) (hl : l.length < 1000000) : PX.codec_Encode.f k 2 big bm l = some ((if bm = true then bom big else []) ++ enc16 big l, 0) := by
  have el : (enc16 big l).length ≤ 4 * l.length := by
    clear hk hl h
    induction l with
    | nil => simp [enc16_nil]
    | cons c l ih =>
      rw [enc16_cons, List.length_append, List.length_cons]
      have := seq16_len big c
      omega
  have eb : (bom big).length = 2 := by unfold bom; cases big <;> rfl
  unfold PX.codec_Encode.f
  rw [if_pos (by omega), if_pos (.inr (.inl rfl)), if_neg (by simp), if_neg (by rw [all_good h]; decide), if_neg (by decide), if_pos rfl]
  unfold PM.codec_encode16.f
  rw [encode16_f k l big hk (by omega) h, Option.bind_some]
  rw [if_pos rfl]
  cases bm
  · rw [if_neg (show ¬ (false = true) by decide), if_neg (show ¬ (false = true) by decide)]
    rfl
  · rw [if_pos rfl, mark_f, Option.bind_some, if_pos rfl, if_pos (by rw [eb]; show 2 + (enc16 big l).length < _; omega)]
theorem latin_l0 : ∀ (d k : Nat) (acc l : List Int) (i : Nat), i + d = l.length → d < k → acc.length + d < 140737488355328 → l.length < 140737488355328 → Bytes (l.drop i) →
    PM.codec_encode1.l0 k acc l (l.length : Int) (i : Int) = some (acc ++ l.drop i, 0) := by
  intro d
  induction d with
  | zero =>
    intro k acc l i hi hk hl hl2 hr
    obtain ⟨k, rfl⟩ : ∃ m, k = m + 1 := ⟨k - 1, by omega⟩
    have e : l.drop i = [] := List.drop_eq_nil_of_le (by omega)
    simp only [PM.codec_encode1.l0]
    rw [if_neg (by omega), e, List.append_nil]
  | succ d ih =>
    intro k acc l i hi hk hl hl2 hr
    obtain ⟨k, rfl⟩ : ∃ m, k = m + 1 := ⟨k - 1, by omega⟩
    have hlt : i < l.length := by omega
    have e := drop_rd l i hlt
    have ew : wrap64 ((i : Int) + 1) = ((i + 1 : Nat) : Int) := by rw [w64 (by omega) (by omega)]; omega
    rw [e] at hr
    have hc := hr.head
    simp only [PM.codec_encode1.l0]
    rw [if_pos (by omega), if_pos (by omega), if_pos (by omega), byte_f _ (by omega), Option.bind_some, if_neg (show ¬ rd l i < 0 by omega)]
    show (if false = true then _ else _) = _
    have em : rd l i % 256 = rd l i := by omega
    rw [if_neg (show ¬ (false = true) by decide), if_neg (by omega), if_pos (by omega), ew, em, ih k (acc ++ [rd l i]) l (i + 1) (by omega) (by omega) (by rw [List.length_append]; simp only [List.length_cons, List.length_nil]; omega) hl2 hr.tail, e]
    simp
theorem enc_3 (k : Nat) (l : List Int) (h : Bytes l) (hk : l.length < k) (hl : l.length < 35184372088832) : PX.codec_Encode.f k 3 false false l = some (l, 0) := by
  unfold PX.codec_Encode.f
  rw [if_pos hl, if_pos (.inr (.inr rfl)), if_neg (by simp), if_neg (by rw [all_good (bytes_right h)]; decide), if_neg (by decide), if_neg (by decide)]
  unfold PM.codec_encode1.f
  have := latin_l0 l.length k [] l 0 (by omega) hk (by simp; omega) (by omega) (by simpa using h)
  rw [show ((0 : Nat) : Int) = 0 from rfl] at this
  rw [this]
  rfl

/-- Bytes of any encoding, decoded, and encoded again. -/
theorem back (n : Int) (hn : n = 1 ∨ n = 2 ∨ n = 3) (l : List Int) (h : Bytes l) (hl : l.length < 100000) : ∃ (b1 b2 : Bool) (c : List Int), ∀ k, 4 * l.length + 2 < k → PX.codec_Decode.f k n l = some (n, b1, b2, c, 0) ∧ PX.codec_Encode.f k n b1 b2 c = some (l, 0) := by
  rcases hn with rfl | rfl | rfl
  · refine ⟨false, false, dec8 l, fun k hk => ⟨dec_1 k l h (by omega) (by omega), ?_⟩⟩
    have := decode_len h
    rw [enc_1 k (dec8 l) (decode_right h) (by omega) (by omega), enc_decode h]
  · rcases s2_cases h with ⟨r, hr, _⟩ | ⟨hs, _⟩
    · have hb : Bytes r := fun x hx => h x (by rw [hr]; exact List.mem_append_right _ hx)
      obtain ⟨big, hbig⟩ : ∃ b, b = (s2 l).1 := ⟨_, rfl⟩
      rw [← hbig] at hr
      clear hbig
      subst hr
      rw [List.length_append] at hl
      refine ⟨big, true, dec16 big r, fun k hk => ?_⟩
      rw [List.length_append] at hk
      have := dec16_len big hb
      refine ⟨dec_2_mark k big r hb (by omega) (by omega), ?_⟩
      rw [enc_2 k big true _ (dec16_right big hb) (by omega) (by omega), enc16_dec16 big hb, if_pos rfl]
    · refine ⟨true, false, dec16 true l, fun k hk => ?_⟩
      have := dec16_len true h
      refine ⟨dec_2_none k l h hs (by omega) (by omega), ?_⟩
      rw [enc_2 k true false _ (dec16_right true h) (by omega) (by omega), enc16_dec16 true h]
      rfl
  · exact ⟨false, false, l, fun k hk => ⟨dec_3 k l h (by omega), enc_3 k l h (by omega) (by omega)⟩⟩
theorem named_f (s : ByteArray) : PX.codec_Named.f s = some (PX.named s) := rfl
theorem wf_u8 {x : Int} (h : (Lit.int .u8 x).wf = true) : 0 ≤ x ∧ x < 256 := by
  simp [Lit.wf, IntKind.min, IntKind.max, IntKind.signed, IntKind.bits] at h; omega
theorem wf_i32 {x : Int} (h : (Lit.int .i32 x).wf = true) : -2147483648 ≤ x ∧ x < 2147483648 := by
  simp [Lit.wf, IntKind.min, IntKind.max, IntKind.signed, IntKind.bits] at h; omega
theorem wf_bytes {l : List Int} (h : ∀ x ∈ l, (Lit.int .u8 x).wf = true) : Bytes l := fun x hx => wf_u8 (h x hx)
theorem with_f (a : Int) (b1 b2 : Bool) (l0 l1 : List Int) (h : l1.length < 35184372088832) : PX.codec_With.f a b1 b2 l0 l1 = some (a, b1, b2, l1) := by unfold PX.codec_With.f; rw [if_pos h]
#print axioms back
end Go.Proofs.YtcofbakhhcgbfaaDoor.Utf
