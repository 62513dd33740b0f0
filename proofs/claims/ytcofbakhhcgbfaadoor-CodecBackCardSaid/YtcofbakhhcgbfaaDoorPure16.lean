/- UTF-16 in plain words: 'dec16' and 'enc16', that what is decoded is encoded to the same bytes, and that scalars below d800 are decoded to the same cells; and that the printed functions of package utf16 are these. Conditions: bytes are bytes, lists are shorter than Go's bound. -/
import Derived.Test.YtcofbakhhcgbfaaDoorPureC4
namespace Go.Proofs.YtcofbakhhcgbfaaDoor.Utf
open Go.RowKit Go.Proofs.YtcofbakhhcgbfaaDoorW.PrintWords Go.Proofs.YtcofbakhhcgbfaaDoorW.PrintLast Go.Proofs.YtcofbakhhcgbfaaDoorW.PrintMore
set_option linter.unusedVariables false

def unit (big : Bool) (a b : Int) : Int := if big = true then a * 256 + b else b * 256 + a
def put (big : Bool) (u : Int) : List Int := if big = true then [u / 256 % 256, u % 256] else [u % 256, u / 256 % 256]
def seq16 (big : Bool) (c : Int) : List Int := if c < 0 then [-1 - c] else if c < 65536 then put big c else put big (55296 + (c - 65536) / 1024) ++ put big (56320 + (c - 65536) % 1024)
def enc16 (big : Bool) (l : List Int) : List Int := l.flatMap (seq16 big)
theorem enc16_nil (big : Bool) : enc16 big [] = [] := rfl
theorem enc16_cons (big : Bool) (c : Int) (l : List Int) : enc16 big (c :: l) = seq16 big c ++ enc16 big l := by simp [enc16]
theorem enc16_append (big : Bool) (a b : List Int) : enc16 big (a ++ b) = enc16 big a ++ enc16 big b := by simp [enc16]
/-- A pair's second half. -/
def low (u v : Int) : Bool := decide (u < 56320 ∧ 56320 ≤ v ∧ v < 57344)
/-- The first cells, and how many bytes they take. -/
def st (big : Bool) : List Int → List Int × Nat
  | x :: y :: r => if unit big x y < 55296 ∨ 57344 ≤ unit big x y then ([unit big x y], 2)
    else match r with
      | z :: w :: _ => if low (unit big x y) (unit big z w) = true then ([65536 + (unit big x y - 55296) * 1024 + (unit big z w - 56320)], 4) else ([-1 - x, -1 - y], 2)
      | _ => ([-1 - x, -1 - y], 2)
  | [x] => ([-1 - x], 1)
  | [] => ([], 1)
def dec16 (big : Bool) : List Int → List Int
  | [] => []
  | x :: t => (st big (x :: t)).1 ++ dec16 big (t.drop ((st big (x :: t)).2 - 1))
termination_by l => l.length
decreasing_by simp only [List.length_drop, List.length_cons]; omega
theorem dec16_nil (big : Bool) : dec16 big [] = [] := by rw [dec16]
theorem dec16_cons (big : Bool) (x : Int) (t : List Int) : dec16 big (x :: t) = (st big (x :: t)).1 ++ dec16 big (t.drop ((st big (x :: t)).2 - 1)) := by rw [dec16]

theorem unit_range (big : Bool) {a b : Int} (ha : 0 ≤ a ∧ a < 256) (hb : 0 ≤ b ∧ b < 256) : 0 ≤ unit big a b ∧ unit big a b < 65536 := by
  unfold unit; cases big <;> simp <;> omega
theorem put_unit (big : Bool) {a b : Int} (ha : 0 ≤ a ∧ a < 256) (hb : 0 ≤ b ∧ b < 256) : put big (unit big a b) = [a, b] := by
  unfold put unit
  cases big
  · rw [if_neg (by simp), if_neg (by simp)]
    have e1 : (b * 256 + a) % 256 = a := by omega
    have e2 : (b * 256 + a) / 256 % 256 = b := by omega
    rw [e1, e2]
  · rw [if_pos rfl, if_pos rfl]
    have e1 : (a * 256 + b) % 256 = b := by omega
    have e2 : (a * 256 + b) / 256 % 256 = a := by omega
    rw [e1, e2]
/-- What one step says: these cells are right, they are encoded to the bytes taken. -/
theorem st_spec (big : Bool) : ∀ (x : Int) (t : List Int), Bytes (x :: t) → enc16 big (st big (x :: t)).1 = (x :: t).take (st big (x :: t)).2 ∧ (∀ c ∈ (st big (x :: t)).1, Right c) ∧ (st big (x :: t)).1.length ≤ (st big (x :: t)).2 ∧ 1 ≤ (st big (x :: t)).2 ∧ (st big (x :: t)).2 ≤ (x :: t).length := by
  intro x t h
  have hx := h.head
  have esc : ∀ a : Int, 0 ≤ a ∧ a < 256 → seq16 big (-1 - a) = [a] ∧ Right (-1 - a) := fun a ha => by
    unfold seq16 Right
    rw [if_pos (by omega)]
    exact ⟨by congr 1; omega, by omega, by omega, by omega⟩
  rcases t with _ | ⟨y, r⟩
  · refine ⟨?_, ?_, by simp [st], by simp [st], by simp [st]⟩
    · show enc16 big [-1 - x] = [x]
      rw [enc16_cons, (esc x hx).1]; rfl
    · intro c hc
      have : c = -1 - x := by simpa [st] using hc
      rw [this]; exact (esc x hx).2
  have hy := h.tail.head
  have hu := unit_range big hx hy
  have pair : enc16 big [-1 - x, -1 - y] = [x, y] ∧ ∀ c ∈ ([-1 - x, -1 - y] : List Int), Right c := by
    refine ⟨by rw [enc16_cons, enc16_cons, (esc x hx).1, (esc y hy).1]; rfl, ?_⟩
    intro c hc
    rcases List.mem_cons.1 hc with rfl | hc
    · exact (esc x hx).2
    · rcases List.mem_cons.1 hc with rfl | hc
      · exact (esc y hy).2
      · cases hc
  by_cases c1 : unit big x y < 55296 ∨ 57344 ≤ unit big x y
  · have e : st big (x :: y :: r) = ([unit big x y], 2) := if_pos c1
    rw [e]
    refine ⟨?_, ?_, by simp, by simp, by simp⟩
    · show enc16 big [unit big x y] = [x, y]
      rw [enc16_cons]
      unfold seq16
      rw [if_neg (by omega), if_pos (by omega), put_unit big hx hy]; rfl
    · intro c hc
      have : c = unit big x y := by simpa using hc
      rw [this]; unfold Right; omega
  · rcases r with _ | ⟨z, _ | ⟨w, r⟩⟩
    · have e : st big [x, y] = ([-1 - x, -1 - y], 2) := if_neg c1
      rw [e]
      exact ⟨pair.1, pair.2, by simp, by simp, by simp⟩
    · have e : st big [x, y, z] = ([-1 - x, -1 - y], 2) := if_neg c1
      rw [e]
      exact ⟨pair.1, pair.2, by simp, by simp, by simp⟩
    · have hz := h.tail.tail.head
      have hw := h.tail.tail.tail.head
      have hv := unit_range big hz hw
      by_cases c2 : low (unit big x y) (unit big z w) = true
      · have e : st big (x :: y :: z :: w :: r) = ([65536 + (unit big x y - 55296) * 1024 + (unit big z w - 56320)], 4) := (if_neg c1).trans (if_pos c2)
        have c3 := of_decide_eq_true c2
        rw [e]
        refine ⟨?_, ?_, by simp, by simp, by simp⟩
        · show enc16 big [_] = [x, y, z, w]
          rw [enc16_cons]
          unfold seq16
          have e1 : 55296 + (65536 + (unit big x y - 55296) * 1024 + (unit big z w - 56320) - 65536) / 1024 = unit big x y := by omega
          have e2 : 56320 + (65536 + (unit big x y - 55296) * 1024 + (unit big z w - 56320) - 65536) % 1024 = unit big z w := by omega
          rw [if_neg (by omega), if_neg (by omega), e1, e2, put_unit big hx hy, put_unit big hz hw]; rfl
        · intro c hc
          have : c = 65536 + (unit big x y - 55296) * 1024 + (unit big z w - 56320) := by simpa using hc
          rw [this]; unfold Right; omega
      · have e : st big (x :: y :: z :: w :: r) = ([-1 - x, -1 - y], 2) := (if_neg c1).trans (if_neg c2)
        rw [e]
        exact ⟨pair.1, pair.2, by simp, by simp, by simp⟩
theorem dec16_back (big : Bool) : ∀ (n : Nat) (l : List Int), l.length ≤ n → Bytes l → enc16 big (dec16 big l) = l ∧ (∀ c ∈ dec16 big l, Right c) ∧ (dec16 big l).length ≤ l.length
  | _, [], _, _ => by rw [dec16_nil]; exact ⟨rfl, (fun c hc => by cases hc), Nat.le_refl _⟩
  | 0, x :: t, hn, _ => by simp at hn
  | n + 1, x :: t, hn, h => by
    obtain ⟨s1, s2, s3, s4, s5⟩ := st_spec big x t h
    obtain ⟨m1, m2, m3⟩ := dec16_back big n (t.drop ((st big (x :: t)).2 - 1)) (by rw [List.length_drop]; simp only [List.length_cons] at hn; omega) (h.tail.drop _)
    rw [dec16_cons]
    generalize hq : (st big (x :: t)).2 = q at *
    obtain ⟨q, rfl⟩ : ∃ m, q = m + 1 := ⟨q - 1, by omega⟩
    refine ⟨?_, ?_, ?_⟩
    · rw [enc16_append, s1, m1]
      show x :: t.take q ++ t.drop q = x :: t
      rw [List.cons_append, List.take_append_drop]
    · intro c hc
      rcases List.mem_append.1 hc with hc | hc
      · exact s2 c hc
      · exact m2 c hc
    · rw [List.length_append]
      rw [List.length_drop] at m3
      simp only [List.length_cons] at s5 ⊢
      omega
theorem enc16_dec16 (big : Bool) {l : List Int} (h : Bytes l) : enc16 big (dec16 big l) = l := (dec16_back big l.length l (Nat.le_refl _) h).1
theorem dec16_right (big : Bool) {l : List Int} (h : Bytes l) : ∀ c ∈ dec16 big l, Right c := (dec16_back big l.length l (Nat.le_refl _) h).2.1
theorem dec16_len (big : Bool) {l : List Int} (h : Bytes l) : (dec16 big l).length ≤ l.length := (dec16_back big l.length l (Nat.le_refl _) h).2.2
/-- Cells below d800 that are no escapes. -/
theorem dec16_enc16 (big : Bool) : ∀ l : List Int, (∀ c ∈ l, 0 ≤ c ∧ c < 55296) → dec16 big (enc16 big l) = l
  | [], _ => by rw [enc16_nil, dec16_nil]
  | c :: l, h => by
    have hc := h c List.mem_cons_self
    have ih := dec16_enc16 big l (fun d hd => h d (List.mem_cons_of_mem _ hd))
    rw [enc16_cons]
    have e : seq16 big c = put big c := by unfold seq16; rw [if_neg (by omega), if_pos (by omega)]
    rw [e]
    obtain ⟨a, b, hp, hu⟩ : ∃ a b, put big c = [a, b] ∧ unit big a b = c := by
      unfold put unit
      cases big
      · exact ⟨_, _, rfl, by simp; omega⟩
      · exact ⟨_, _, rfl, by simp; omega⟩
    rw [hp]
    show dec16 big (a :: b :: enc16 big l) = _
    have e2 : st big (a :: b :: enc16 big l) = ([c], 2) := by rw [← hu]; exact if_pos (by omega)
    rw [dec16_cons, e2]
    show [c] ++ dec16 big (enc16 big l) = _
    rw [ih]; rfl
#print axioms dec16_enc16
#print axioms enc16_dec16
end Go.Proofs.YtcofbakhhcgbfaaDoor.Utf
