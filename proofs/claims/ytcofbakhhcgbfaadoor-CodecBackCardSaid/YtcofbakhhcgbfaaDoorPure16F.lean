/- The printed functions of package utf16 are 'dec16' and 'enc16'. Conditions: bytes are bytes, cells are right, lists are shorter than Go's bound. -/
import Derived.Test.YtcofbakhhcgbfaaDoorPure16
namespace Go.Proofs.YtcofbakhhcgbfaaDoor.Utf
open Go.RowKit Go.Proofs.YtcofbakhhcgbfaaDoorW.PrintWords Go.Proofs.YtcofbakhhcgbfaaDoorW.PrintLast Go.Proofs.YtcofbakhhcgbfaaDoorW.PrintMore
set_option linter.unusedVariables false

theorem or8 {a b : Int} (ha : 0 ≤ a ∧ a < 256) (hb : 0 ≤ b ∧ b < 256) : Go.bits .or .i32 (wrap32 (wrap32 a * 256)) (wrap32 b) = a * 256 + b := by
  rw [w32 (i := a) (by omega) (by omega), w32 (i := b) (by omega) (by omega), w32 (by omega) (by omega)]
  exact bits_join .i32 31 (by decide) wraps_i32 8 _ _ (by omega) (by omega) (by omega) (by omega) (by omega) (by omega)
theorem unit_f (big : Bool) {x y : Int} (r : List Int) (hx : 0 ≤ x ∧ x < 256) (hy : 0 ≤ y ∧ y < 256) : PM.utf16_order_unit.f big (x :: y :: r) = some (unit big x y) := by
  unfold PM.utf16_order_unit.f unit
  have l0 : (0 : Int) < (((x :: y :: r).length : Nat) : Int) := by simp only [List.length_cons]; omega
  have l1 : (1 : Int) < (((x :: y :: r).length : Nat) : Int) := by simp only [List.length_cons]; omega
  cases big
  · rw [if_neg Bool.false_ne_true, if_pos l1, if_pos l0, if_neg Bool.false_ne_true, rd0, rd1, or8 hy hx]
  · rw [if_pos rfl, if_pos rfl, if_pos l0, if_pos l1, rd0, rd1, or8 hx hy]
theorem esc_f (b : Int) (h : 0 ≤ b ∧ b < 256) : PM.cell_Escape.f b = some (-1 - b) := by
  unfold PM.cell_Escape.f
  rw [w32 (by omega) (by omega), not_i32 _ (by omega) (by omega)]

/-- The pair of escapes that j2 and j3 lay. -/
theorem two_f (k : Nat) (big : Bool) (x y : Int) (r acc : List Int) (hx : 0 ≤ x ∧ x < 256) (hy : 0 ≤ y ∧ y < 256) (hl : acc.length + 2 < 35184372088832) :
    (if (0 : Int) < (((x :: y :: r).length : Nat) : Int) then ((PM.cell_Escape.f (rd (x :: y :: r) 0)).bind fun t150 => (if (1 : Int) < (((x :: y :: r).length : Nat) : Int) then ((PM.cell_Escape.f (rd (x :: y :: r) 1)).bind fun t152 => ((some (([t150, t152] : List Int) : List Int)).bind fun y153 => (if acc.length + y153.length < 35184372088832 then (if (2 : Int) ≤ (((x :: y :: r).length : Nat) : Int) then (PM.utf16_Decode.l0 k ((x :: y :: r).drop 2) big (acc ++ y153)) else (none)) else (none)))) else (none))) else (none)) = PM.utf16_Decode.l0 k r big (acc ++ [-1 - x, -1 - y]) := by
  have l0 : (0 : Int) < (((x :: y :: r).length : Nat) : Int) := by simp only [List.length_cons]; omega
  have l1 : (1 : Int) < (((x :: y :: r).length : Nat) : Int) := by simp only [List.length_cons]; omega
  have l2 : (2 : Int) ≤ (((x :: y :: r).length : Nat) : Int) := by simp only [List.length_cons]; omega
  rw [if_pos l0, rd0, esc_f x hx, Option.bind_some, if_pos l1, rd1, esc_f y hy, Option.bind_some, Option.bind_some, if_pos (by simpa using hl), if_pos l2]
  rfl

theorem decode16_l0 (big : Bool) : ∀ (d k : Nat) (l acc : List Int), Bytes l → l.length ≤ d → 4 * d < k → acc.length + l.length < 35184372088832 → PM.utf16_Decode.l0 k l big acc = some (acc ++ dec16 big l)
  | d, k, [], acc, _, _, hk, _ => by
    obtain ⟨k, rfl⟩ : ∃ m, k = m + 1 := ⟨k - 1, by omega⟩
    simp only [PM.utf16_Decode.l0]
    rw [if_neg (by simp), if_neg (by simp), dec16_nil, List.append_nil]
  | 0, k, x :: t, acc, _, hd, _, _ => by simp at hd
  | d + 1, k, [x], acc, h, hd, hk, hl => by
    obtain ⟨k, rfl⟩ : ∃ m, k = m + 1 := ⟨k - 1, by omega⟩
    simp only [PM.utf16_Decode.l0]
    simp only [List.length_cons, List.length_nil] at hl
    rw [if_neg (by simp), if_pos (by simp), if_pos (by simp), rd0, esc_f x h.head, Option.bind_some, if_pos (by omega), dec16_cons]
    show some (acc ++ [-1 - x]) = some (acc ++ ([-1 - x] ++ dec16 big []))
    rw [dec16_nil, List.append_nil]
  | d + 1, k, x :: y :: r, acc, h, hd, hk, hl => by
    obtain ⟨k, rfl⟩ : ∃ m, k = m + 1 + 1 + 1 + 1 := ⟨k - 4, by omega⟩
    have hx := h.head
    have hy := h.tail.head
    have hu := unit_range big hx hy
    simp only [List.length_cons] at hd hl
    have l2 : (2 : Int) ≤ (((x :: y :: r).length : Nat) : Int) := by simp only [List.length_cons]; omega
    have two : ∀ (k2 : Nat) (z : List Int), 4 * d < k2 → acc.length + z.length + r.length < 35184372088832 → PM.utf16_Decode.l0 k2 r big (acc ++ z) = some (acc ++ (z ++ dec16 big r)) := fun k2 z hk2 hz => by
      rw [decode16_l0 big d k2 r (acc ++ z) h.tail.tail (by omega) hk2 (by rw [List.length_append]; omega), List.append_assoc]
    rw [dec16_cons]
    simp only [PM.utf16_Decode.l0]
    rw [if_pos (by simp only [List.length_cons]; omega), unit_f big r hx hy, Option.bind_some]
    by_cases c1 : unit big x y < 55296 ∨ 57344 ≤ unit big x y
    · have e : st big (x :: y :: r) = ([unit big x y], 2) := if_pos c1
      have go : PM.utf16_Decode.j1 (k + 1 + 1 + 1) (x :: y :: r) big acc (unit big x y) true = some (acc ++ ([unit big x y] ++ dec16 big r)) := by
        simp only [PM.utf16_Decode.j1]
        rw [if_pos trivial, if_pos (by omega), if_pos l2]
        exact two (k + 1 + 1) [unit big x y] (by omega) (by simp only [List.length_cons, List.length_nil]; omega)
      rw [e]
      show _ = some (acc ++ ([unit big x y] ++ dec16 big r))
      by_cases c2 : unit big x y < 55296
      · rw [if_pos c2]; exact go
      · rw [if_neg c2, decide_eq_true (show unit big x y ≥ 57344 by omega)]; exact go
    · rw [if_neg (show ¬ unit big x y < 55296 by omega), decide_eq_false (show ¬ unit big x y ≥ 57344 by omega)]
      simp only [PM.utf16_Decode.j1]
      rw [if_neg (by simp)]
      have esc2 : PM.utf16_Decode.j2 (k + 1 + 1) (x :: y :: r) big acc (unit big x y) false = some (acc ++ ([-1 - x, -1 - y] ++ dec16 big r)) := by
        simp only [PM.utf16_Decode.j2]
        rw [if_neg (by simp), two_f (k + 1) big x y r acc hx hy (by omega)]
        exact two (k + 1) [-1 - x, -1 - y] (by omega) (by simp only [List.length_cons, List.length_nil]; omega)
      rcases r with _ | ⟨z, _ | ⟨w, r⟩⟩
      · have e : st big [x, y] = ([-1 - x, -1 - y], 2) := if_neg c1
        rw [e]
        show _ = some (acc ++ ([-1 - x, -1 - y] ++ dec16 big []))
        by_cases c2 : unit big x y < 56320
        · rw [if_pos c2, decide_eq_false (by simp)]; exact esc2
        · rw [if_neg c2]; exact esc2
      · have e : st big [x, y, z] = ([-1 - x, -1 - y], 2) := if_neg c1
        rw [e]
        show _ = some (acc ++ ([-1 - x, -1 - y] ++ dec16 big [z]))
        by_cases c2 : unit big x y < 56320
        · rw [if_pos c2, decide_eq_false (by simp)]; exact esc2
        · rw [if_neg c2]; exact esc2
      · have hz := h.tail.tail.head
        have hw := h.tail.tail.tail.head
        have hv := unit_range big hz hw
        by_cases c2 : unit big x y < 56320
        · rw [if_pos c2, decide_eq_true (by simp only [List.length_cons]; omega)]
          simp only [PM.utf16_Decode.j2]
          rw [if_pos trivial, if_pos l2]
          show ((PM.utf16_order_unit.f big (z :: w :: r)).bind _) = _
          rw [unit_f big r hz hw, Option.bind_some]
          have esc3 : PM.utf16_Decode.j3 (k + 1) (x :: y :: z :: w :: r) big acc (unit big x y) (unit big z w) false = some (acc ++ ([-1 - x, -1 - y] ++ dec16 big (z :: w :: r))) := by
            simp only [PM.utf16_Decode.j3]
            rw [if_neg (by simp), two_f k big x y (z :: w :: r) acc hx hy (by simp only [List.length_cons] at hl; omega)]
            exact two k [-1 - x, -1 - y] (by omega) (by simp only [List.length_cons, List.length_nil] at hl ⊢; omega)
          by_cases c3 : unit big z w ≥ 56320
          · rw [if_pos c3]
            by_cases c4 : unit big z w < 57344
            · have e : st big (x :: y :: z :: w :: r) = ([65536 + (unit big x y - 55296) * 1024 + (unit big z w - 56320)], 4) := (if_neg c1).trans (if_pos (decide_eq_true ⟨c2, c3, c4⟩))
              rw [e, decide_eq_true c4]
              simp only [List.length_cons] at hd hl
              simp only [PM.utf16_Decode.j3]
              rw [if_pos trivial, if_pos (by omega), if_pos (by simp only [List.length_cons]; omega)]
              have ew : wrap32 (wrap32 (65536 + wrap32 (wrap32 (unit big x y - 55296) * 1024)) + wrap32 (unit big z w - 56320)) = 65536 + (unit big x y - 55296) * 1024 + (unit big z w - 56320) := by
                rw [w32 (i := unit big x y - 55296) (by omega) (by omega), w32 (i := unit big z w - 56320) (by omega) (by omega), w32 (i := (unit big x y - 55296) * 1024) (by omega) (by omega), w32 (i := 65536 + (unit big x y - 55296) * 1024) (by omega) (by omega), w32 (by omega) (by omega)]
              rw [ew]
              show PM.utf16_Decode.l0 k r big _ = some (acc ++ ([_] ++ dec16 big r))
              rw [decode16_l0 big d k r _ h.tail.tail.tail.tail (by omega) (by omega) (by rw [List.length_append]; simp only [List.length_cons, List.length_nil]; omega), List.append_assoc]
            · have e : st big (x :: y :: z :: w :: r) = ([-1 - x, -1 - y], 2) := (if_neg c1).trans (if_neg (fun q => c4 (of_decide_eq_true q).2.2))
              rw [e, decide_eq_false c4]; exact esc3
          · have e : st big (x :: y :: z :: w :: r) = ([-1 - x, -1 - y], 2) := (if_neg c1).trans (if_neg (fun q => c3 (of_decide_eq_true q).2.1))
            rw [if_neg c3, e]; exact esc3
        · have e : st big (x :: y :: z :: w :: r) = ([-1 - x, -1 - y], 2) := (if_neg c1).trans (if_neg (fun q => c2 (of_decide_eq_true q).1))
          rw [if_neg c2, e]; exact esc2
theorem decode16_f (k : Nat) (l : List Int) (big : Bool) (h : Bytes l) (hk : 4 * l.length < k) (hl : l.length < 35184372088832) : PM.utf16_Decode.f k l big = some (dec16 big l) := by
  unfold PM.utf16_Decode.f
  rw [decode16_l0 big l.length k l [] h (Nat.le_refl _) hk (by simpa using hl)]
  rfl

/-! ### Encode -/
theorem and10 (a : Int) (h : 0 ≤ a ∧ a < 2147483648) : Go.bits .and .i32 a 1023 = a % 1024 := bits_mask .i32 31 (by decide) wraps_i32 10 (by decide) a h.1 (by omega)
theorem put_len (big : Bool) (u : Int) : (put big u).length = 2 := by unfold put; cases big <;> rfl
theorem put_f (big : Bool) (acc : List Int) (u : Int) (hl : acc.length + 2 < 140737488355328) : PM.utf16_order_put.f big acc u = some (acc ++ put big u) := by
  unfold PM.utf16_order_put.f put
  cases big
  · rw [if_neg Bool.false_ne_true, Option.bind_some, if_pos (by simpa using hl), if_neg Bool.false_ne_true]
  · rw [if_pos rfl, Option.bind_some, if_pos (by simpa using hl), if_pos rfl]
theorem seq16_len (big : Bool) (c : Int) : (seq16 big c).length ≤ 4 := by
  unfold seq16
  split
  · simp
  · split
    · rw [put_len]; omega
    · rw [List.length_append, put_len, put_len]; omega
theorem encode16_l0 (big : Bool) : ∀ (d k : Nat) (acc l : List Int) (i : Nat), i + d = l.length → d < k → acc.length + 4 * d < 140737488355328 → l.length < 140737488355328 → (∀ c ∈ l.drop i, Right c) →
    PM.utf16_Encode.l0 k big acc l (l.length : Int) (i : Int) = some (acc ++ enc16 big (l.drop i), 0) := by
  intro d
  induction d with
  | zero =>
    intro k acc l i hi hk hl hl2 hr
    obtain ⟨k, rfl⟩ : ∃ m, k = m + 1 := ⟨k - 1, by omega⟩
    have e : l.drop i = [] := List.drop_eq_nil_of_le (by omega)
    simp only [PM.utf16_Encode.l0]
    rw [if_neg (by omega), e, enc16_nil, List.append_nil]
  | succ d ih =>
    intro k acc l i hi hk hl hl2 hr
    obtain ⟨k, rfl⟩ : ∃ m, k = m + 1 := ⟨k - 1, by omega⟩
    have hlt : i < l.length := by omega
    have e := drop_rd l i hlt
    have ew : wrap64 ((i : Int) + 1) = ((i + 1 : Nat) : Int) := by rw [w64 (by omega) (by omega)]; omega
    rw [e] at hr
    have hc := hr _ List.mem_cons_self
    obtain ⟨h0, h1, h2⟩ := id hc
    have step : ∀ acc2 : List Int, acc2 = acc ++ seq16 big (rd l i) → PM.utf16_Encode.l0 k big acc2 l (l.length : Int) ((i + 1 : Nat) : Int) = some (acc ++ enc16 big (rd l i :: l.drop (i + 1)), 0) := by
      rintro acc2 rfl
      have hs := seq16_len big (rd l i)
      rw [ih k (acc ++ seq16 big (rd l i)) l (i + 1) (by omega) (by omega) (by rw [List.length_append]; omega) hl2 (fun c q => hr c (List.mem_cons_of_mem _ q)), enc16_cons, List.append_assoc]
    simp only [PM.utf16_Encode.l0]
    rw [if_pos (by omega), if_pos (by omega), if_pos (by omega), byte_f _ h0, Option.bind_some, right_f, Option.bind_some, decide_eq_true hc, if_pos rfl, ew, e]
    by_cases hn : rd l i < 0
    · rw [if_pos hn]
      show (if true = true then _ else _) = _
      rw [if_pos rfl, if_pos (by omega)]
      refine step _ ?_
      unfold seq16
      rw [if_pos hn]
    · rw [if_neg hn]
      show (if false = true then _ else _) = _
      rw [if_neg Bool.false_ne_true]
      by_cases hb : rd l i < 65536
      · rw [if_pos hb, put_f big acc _ (by omega), Option.bind_some]
        refine step _ ?_
        unfold seq16
        rw [if_neg hn, if_pos hb]
      · rw [if_neg hb]
        have e1 : wrap32 (55296 + wrap32 (rd l i - 65536) / 1024) = 55296 + (rd l i - 65536) / 1024 := by
          rw [w32 (i := rd l i - 65536) (by omega) (by omega), w32 (by omega) (by omega)]
        have e2 : wrap32 (56320 + Go.bits .and .i32 (wrap32 (rd l i - 65536)) 1023) = 56320 + (rd l i - 65536) % 1024 := by
          rw [w32 (i := rd l i - 65536) (by omega) (by omega), and10 _ (by omega), w32 (by omega) (by omega)]
        rw [e1, e2, put_f big acc _ (by omega), Option.bind_some, put_f big _ _ (by rw [List.length_append, put_len]; omega), Option.bind_some]
        refine step _ ?_
        unfold seq16
        rw [if_neg hn, if_neg hb, List.append_assoc]
theorem encode16_f (k : Nat) (l : List Int) (big : Bool) (hk : l.length < k) (hl : 4 * l.length < 140737488355328) (h : ∀ c ∈ l, Right c) : PM.utf16_Encode.f k l big = some (enc16 big l, 0) := by
  unfold PM.utf16_Encode.f
  have := encode16_l0 big l.length k [] l 0 (by omega) hk (by simpa using hl) (by omega) (by simpa using h)
  rw [show ((0 : Nat) : Int) = 0 from rfl] at this
  rw [this]
  simp
#print axioms encode16_f
#print axioms decode16_f
end Go.Proofs.YtcofbakhhcgbfaaDoor.Utf
