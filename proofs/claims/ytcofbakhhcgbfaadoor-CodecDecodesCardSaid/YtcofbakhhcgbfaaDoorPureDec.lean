/- Plain facts on UTF-8, of lists of whole numbers: decoding and encoding by the library's arithmetic, and that each undoes the other. No program stands in this text. -/
import Derived.Lib.DecodeN
import Derived.Test.YtcofbakhhcgbfaaDoorWWords
namespace Go.Proofs.YtcofbakhhcgbfaaDoor.Utf
open Go.RowKit Go.Proofs.YtcofbakhhcgbfaaDoorW.PrintWords

def Bytes (l : List Int) : Prop := ∀ x ∈ l, 0 ≤ x ∧ x < 256
theorem Bytes.nil : Bytes [] := by intro x h; cases h
theorem Bytes.cons {x : Int} {t : List Int} (h0 : 0 ≤ x) (h1 : x < 256) (h : Bytes t) : Bytes (x :: t) := by
  intro y hy
  rcases List.mem_cons.1 hy with rfl | hy
  · exact ⟨h0, h1⟩
  · exact h y hy
theorem Bytes.head {x : Int} {t : List Int} (h : Bytes (x :: t)) : 0 ≤ x ∧ x < 256 := h x List.mem_cons_self
theorem Bytes.tail {x : Int} {t : List Int} (h : Bytes (x :: t)) : Bytes t := fun y hy => h y (List.mem_cons_of_mem _ hy)
theorem Bytes.drop {l : List Int} (h : Bytes l) (n : Nat) : Bytes (l.drop n) := fun y hy => h y (List.mem_of_mem_drop hy)
theorem Bytes.take {l : List Int} (h : Bytes l) (n : Nat) : Bytes (l.take n) := fun y hy => h y (List.mem_of_mem_take hy)
theorem Bytes.append {l m : List Int} (h : Bytes l) (h' : Bytes m) : Bytes (l ++ m) := fun y hy => (List.mem_append.1 hy).elim (h y) (h' y)

/-- A cell: a scalar, or an escape. -/
def Right (c : Int) : Prop := -256 ≤ c ∧ c ≤ 1114111 ∧ (c < 55296 ∨ 57343 < c)
instance (c : Int) : Decidable (Right c) := by unfold Right; infer_instance

/-- A cell's bytes. -/
def seq1 (c : Int) : List Int :=
  if c < 0 then [-1 - c] else if c < 128 then [c] else if c < 2048 then [192 + c / 64, 128 + c % 64]
  else if c < 65536 then [224 + c / 4096, 128 + c / 64 % 64, 128 + c % 64]
  else [240 + c / 262144, 128 + c / 4096 % 64, 128 + c / 64 % 64, 128 + c % 64]
def enc (l : List Int) : List Int := l.flatMap seq1
theorem enc_nil : enc [] = [] := rfl
theorem enc_cons (c : Int) (l : List Int) : enc (c :: l) = seq1 c ++ enc l := by simp [enc]
theorem seq1_len (c : Int) : 1 ≤ (seq1 c).length ∧ (seq1 c).length ≤ 4 := by
  unfold seq1
  repeat' split
  all_goals simp
theorem seq1_bytes (c : Int) (h : Right c) : Bytes (seq1 c) := by
  obtain ⟨h0, h1, h2⟩ := h
  unfold seq1
  repeat' split
  all_goals
    intro x hx
    simp only [List.mem_cons, List.not_mem_nil, or_false] at hx
    omega
theorem enc_bytes (l : List Int) (h : ∀ c ∈ l, Right c) : Bytes (enc l) := by
  intro x hx
  obtain ⟨c, hc, hx⟩ := List.mem_flatMap.1 hx
  exact seq1_bytes c (h c hc) x hx
theorem enc_len (l : List Int) : l.length ≤ (enc l).length ∧ (enc l).length ≤ 4 * l.length := by
  induction l with
  | nil => simp [enc_nil]
  | cons c l ih => rw [enc_cons, List.length_append, List.length_cons]; have := seq1_len c; omega

/-- What Go's decoder hands back of bytes that are told as whole numbers. -/
def decP (l : List Int) : Int × Int :=
  if l.length = 0 then (65533, 0) else
    (((Lib.decodeN l.length (rd l 0).toNat (rd l 1).toNat (rd l 2).toNat (rd l 3).toNat).1 : Int), ((Lib.decodeN l.length (rd l 0).toNat (rd l 1).toNat (rd l 2).toNat (rd l 3).toNat).2 : Int))
/-- The first cell, and how many bytes it has. -/
def one (l : List Int) : Int × Nat := if (decP l).1 = 65533 ∧ (decP l).2 = 1 then (-1 - rd l 0, 1) else ((decP l).1, (decP l).2.toNat)
def dec8 : List Int → List Int
  | [] => []
  | x :: t => (one (x :: t)).1 :: dec8 (t.drop ((one (x :: t)).2 - 1))
termination_by l => l.length
decreasing_by simp; omega
theorem decode_nil : dec8 [] = [] := by rw [dec8]
theorem decode_cons (x : Int) (t : List Int) : dec8 (x :: t) = (one (x :: t)).1 :: dec8 (t.drop ((one (x :: t)).2 - 1)) := by rw [dec8]

theorem rd0 (x : Int) (t : List Int) : rd (x :: t) 0 = x := rfl
theorem rd1 (x y : Int) (t : List Int) : rd (x :: y :: t) 1 = y := rfl
theorem rd2 (x y z : Int) (t : List Int) : rd (x :: y :: z :: t) 2 = z := rfl
theorem rd3 (x y z u : Int) (t : List Int) : rd (x :: y :: z :: u :: t) 3 = u := rfl

theorem decP_cons (x : Int) (t : List Int) : decP (x :: t) =
    (((Lib.decodeN (t.length + 1) x.toNat (rd (x :: t) 1).toNat (rd (x :: t) 2).toNat (rd (x :: t) 3).toNat).1 : Int), ((Lib.decodeN (t.length + 1) x.toNat (rd (x :: t) 1).toNat (rd (x :: t) 2).toNat (rd (x :: t) 3).toNat).2 : Int)) := by
  unfold decP
  rw [if_neg (by simp)]
  rfl
/-- The shape of the first four. -/
theorem rds {x : Int} {t : List Int} (h : Bytes (x :: t)) : ∃ b0 b1 b2 b3 : Nat, x = b0 ∧ rd (x :: t) 1 = b1 ∧ rd (x :: t) 2 = b2 ∧ rd (x :: t) 3 = b3 ∧ b0 < 256 ∧ b1 < 256 ∧ b2 < 256 ∧ b3 < 256 := by
  have g : ∀ i : Int, 0 ≤ rd (x :: t) i ∧ rd (x :: t) i < 256 := by
    intro i
    unfold rd
    rw [List.getD_eq_getElem?_getD]
    by_cases hi : i.toNat < (x :: t).length
    · rw [List.getElem?_eq_getElem hi]; exact h _ (List.getElem_mem hi)
    · rw [List.getElem?_eq_none (by omega)]; simp
  have a0 := h.head
  have a1 := g 1
  have a2 := g 2
  have a3 := g 3
  exact ⟨x.toNat, (rd (x :: t) 1).toNat, (rd (x :: t) 2).toNat, (rd (x :: t) 3).toNat, by omega, by omega, by omega, by omega, by omega, by omega, by omega, by omega⟩

/-- The decoder's answer is an error of one byte, or a scalar whose bytes stand there. -/
theorem decN_cases (n b0 b1 b2 b3 : Nat) (hn : 1 ≤ n) (h0 : b0 < 256) :
    Lib.decodeN n b0 b1 b2 b3 = (65533, 1) ∨
    ∃ c w : Nat, Lib.decodeN n b0 b1 b2 b3 = (c, w) ∧ 1 ≤ w ∧ w ≤ n ∧ Right c ∧ ¬ (c = 65533 ∧ w = 1) ∧ seq1 c = ([(b0 : Int), b1, b2, b3] : List Int).take w := by
  unfold Lib.decodeN
  by_cases c1 : b0 < 128
  · rw [if_pos c1]
    refine .inr ⟨b0, 1, rfl, by omega, by omega, by unfold Right; omega, by omega, ?_⟩
    unfold seq1
    rw [if_neg (by omega), if_pos (by omega)]
    rfl
  · rw [if_neg c1]
    by_cases c2 : b0 / 32 = 6 ∧ (1 < n ∧ b1 / 64 = 2)
    · rw [if_pos c2]
      by_cases c3 : b0 % 32 * 64 + b1 % 64 ≥ 128
      · rw [if_pos c3]
        refine .inr ⟨_, 2, rfl, by omega, by omega, by unfold Right; omega, by omega, ?_⟩
        unfold seq1
        rw [if_neg (by omega), if_neg (by omega), if_pos (by omega)]
        simp only [List.take_succ_cons, List.take_zero, List.cons.injEq, and_true]
        omega
      · rw [if_neg c3]; exact .inl rfl
    · rw [if_neg c2]
      by_cases c4 : b0 / 16 = 14 ∧ (1 < n ∧ b1 / 64 = 2) ∧ (2 < n ∧ b2 / 64 = 2)
      · rw [if_pos c4]
        split
        · rename_i c5
          refine .inr ⟨_, 3, rfl, by omega, by omega, by unfold Right; omega, by omega, ?_⟩
          unfold seq1
          rw [if_neg (by omega), if_neg (by omega), if_neg (by omega), if_pos (by omega)]
          simp only [List.take_succ_cons, List.take_zero, List.cons.injEq, and_true]
          omega
        · exact .inl rfl
      · rw [if_neg c4]
        by_cases c6 : b0 / 8 = 30 ∧ (1 < n ∧ b1 / 64 = 2) ∧ (2 < n ∧ b2 / 64 = 2) ∧ (3 < n ∧ b3 / 64 = 2)
        · rw [if_pos c6]
          split
          · rename_i c5
            refine .inr ⟨_, 4, rfl, by omega, by omega, by unfold Right; omega, by omega, ?_⟩
            unfold seq1
            rw [if_neg (by omega), if_neg (by omega), if_neg (by omega), if_neg (by omega)]
            simp only [List.take_succ_cons, List.take_zero, List.cons.injEq, and_true]
            omega
          · exact .inl rfl
        · rw [if_neg c6]; exact .inl rfl

theorem take_pad (x : Int) (t : List Int) (w : Nat) (h : w ≤ (x :: t).length) (h4 : w ≤ 4) : ([x, rd (x :: t) 1, rd (x :: t) 2, rd (x :: t) 3] : List Int).take w = (x :: t).take w := by
  match t, w, h, h4 with
  | _, 0, _, _ => rfl
  | _, 1, _, _ => rfl
  | y :: t, 2, _, _ => rfl
  | y :: z :: t, 3, _, _ => rfl
  | y :: z :: u :: t, 4, _, _ => rfl
  | [], 2, h, _ => simp at h
  | [], 3, h, _ => simp at h
  | [], 4, h, _ => simp at h
  | [y], 3, h, _ => simp at h
  | [y], 4, h, _ => simp at h
  | [y, z], 4, h, _ => simp at h

/-- What the decoder hands back, for the one who asks it: an error, or the first cell. -/
theorem decP_cases {x : Int} {t : List Int} (h : Bytes (x :: t)) :
    (decP (x :: t) = (65533, 1) ∧ one (x :: t) = (-1 - x, 1)) ∨
    ∃ c : Int, ∃ w : Nat, decP (x :: t) = (c, (w : Int)) ∧ ¬ (c = 65533 ∧ w = 1) ∧ one (x :: t) = (c, w) ∧ 1 ≤ w ∧ w ≤ (x :: t).length ∧ 0 ≤ c ∧ Right c ∧ seq1 c = (x :: t).take w := by
  obtain ⟨b0, b1, b2, b3, e0, e1, e2, e3, l0, l1, l2, l3⟩ := rds h
  rcases decN_cases (t.length + 1) b0 b1 b2 b3 (by omega) l0 with hd | ⟨c, w, hd, w1, w2, hr, hn, hs⟩
  · left
    have hp : decP (x :: t) = (65533, 1) := by
      rw [decP_cons, e1, e2, e3, e0]
      simp only [Int.toNat_natCast, hd]
      rfl
    refine ⟨hp, ?_⟩
    unfold one
    rw [hp]
    rfl
  · right
    have hp : decP (x :: t) = ((c : Int), (w : Int)) := by
      rw [decP_cons, e1, e2, e3, e0]
      simp only [Int.toNat_natCast, hd]
    have hw4 : w ≤ 4 := by
      have h1 := congrArg List.length hs
      rw [List.length_take] at h1
      have h2 := seq1_len c
      by_cases w ≤ 4
      · assumption
      · exfalso
        have h3 : Lib.decodeN (t.length + 1) b0 b1 b2 b3 = (c, w) := hd
        unfold Lib.decodeN at h3
        repeat' split at h3
        all_goals (injection h3 with _ h4; omega)
    refine ⟨c, w, hp, by omega, ?_, w1, by simpa using w2, by omega, hr, ?_⟩
    · unfold one
      rw [hp, if_neg (by omega)]
      simp
    · rw [hs]
      rw [← take_pad x t w (by simpa using w2) hw4, e1, e2, e3, e0]

theorem one_spec {x : Int} {t : List Int} (h : Bytes (x :: t)) :
    1 ≤ (one (x :: t)).2 ∧ (one (x :: t)).2 ≤ (x :: t).length ∧ Right (one (x :: t)).1 ∧ seq1 (one (x :: t)).1 = (x :: t).take (one (x :: t)).2 := by
  rcases decP_cases h with ⟨_, e⟩ | ⟨c, w, _, _, e, w1, w2, _, hr, hs⟩
  · rw [e]
    have hx := h.head
    refine ⟨Nat.le_refl _, by simp, by unfold Right; simp only; omega, ?_⟩
    show seq1 (-1 - x) = [x]
    unfold seq1
    rw [if_pos (by omega)]
    simp only [List.cons.injEq, and_true]
    omega
  · rw [e]
    exact ⟨w1, w2, hr, hs⟩

/-- There and back: bytes. -/
theorem decode_back : ∀ (n : Nat) (l : List Int), l.length ≤ n → Bytes l → enc (dec8 l) = l ∧ (∀ c ∈ dec8 l, Right c) ∧ (dec8 l).length ≤ l.length
  | _, [], _, _ => by rw [decode_nil]; exact ⟨rfl, fun c hc => (by cases hc), Nat.le_refl _⟩
  | 0, x :: t, hn, _ => by simp at hn
  | n + 1, x :: t, hn, h => by
    obtain ⟨w1, w2, hr, hs⟩ := one_spec h
    have hl : (t.drop ((one (x :: t)).2 - 1)).length ≤ n := by simp at hn; rw [List.length_drop]; omega
    obtain ⟨e1, e2, e3⟩ := decode_back n (t.drop ((one (x :: t)).2 - 1)) hl (h.tail.drop _)
    rw [decode_cons]
    refine ⟨?_, ?_, ?_⟩
    · rw [enc_cons, e1, hs]
      have : t.drop ((one (x :: t)).2 - 1) = (x :: t).drop (one (x :: t)).2 := by
        obtain ⟨m, hm⟩ : ∃ m, (one (x :: t)).2 = m + 1 := ⟨(one (x :: t)).2 - 1, by omega⟩
        rw [hm]; rfl
      rw [this, List.take_append_drop]
    · intro c hc
      rcases List.mem_cons.1 hc with rfl | hc
      · exact hr
      · exact e2 c hc
    · rw [List.length_cons]
      rw [List.length_drop] at e3
      simp at hn ⊢
      omega
theorem enc_decode {l : List Int} (h : Bytes l) : enc (dec8 l) = l := (decode_back l.length l (Nat.le_refl _) h).1
theorem decode_right {l : List Int} (h : Bytes l) : ∀ c ∈ dec8 l, Right c := (decode_back l.length l (Nat.le_refl _) h).2.1
theorem decode_len {l : List Int} (h : Bytes l) : (dec8 l).length ≤ l.length := (decode_back l.length l (Nat.le_refl _) h).2.2

/-- A scalar's bytes are told back, whatever stands behind them. -/
theorem one_seq (c : Int) (h0 : 0 ≤ c) (h : Right c) (r : List Int) : one (seq1 c ++ r) = (c, (seq1 c).length) := by
  obtain ⟨_, h1, h2⟩ := h
  have key : decP (seq1 c ++ r) = (c, ((seq1 c).length : Int)) := by
    unfold seq1
    rw [if_neg (by omega)]
    by_cases k1 : c < 128
    · rw [if_pos k1]
      show decP (c :: r) = _
      rw [decP_cons]
      unfold Lib.decodeN
      rw [if_pos (by omega)]
      simp; omega
    · rw [if_neg k1]
      by_cases k2 : c < 2048
      · rw [if_pos k2]
        show decP ((192 + c / 64) :: (128 + c % 64) :: r) = _
        rw [decP_cons, rd1]
        unfold Lib.decodeN
        rw [if_neg (by omega), if_pos (by simp; omega), if_pos (by omega)]
        simp; omega
      · rw [if_neg k2]
        by_cases k3 : c < 65536
        · rw [if_pos k3]
          show decP ((224 + c / 4096) :: (128 + c / 64 % 64) :: (128 + c % 64) :: r) = _
          rw [decP_cons, rd1, rd2]
          unfold Lib.decodeN
          rw [if_neg (by omega), if_neg (by omega), if_pos (by simp; omega), if_pos (by omega)]
          simp; omega
        · rw [if_neg k3]
          show decP ((240 + c / 262144) :: (128 + c / 4096 % 64) :: (128 + c / 64 % 64) :: (128 + c % 64) :: r) = _
          rw [decP_cons, rd1, rd2, rd3]
          unfold Lib.decodeN
          rw [if_neg (by omega), if_neg (by omega), if_neg (by omega), if_pos (by simp; omega), if_pos (by omega)]
          simp; omega
  unfold one
  rw [key]
  have hl : ¬ (c = 65533 ∧ ((seq1 c).length : Int) = 1) := by
    rintro ⟨rfl, hl⟩
    exact absurd hl (by decide)
  rw [if_neg hl]
  simp
theorem decode_seq (c : Int) (h0 : 0 ≤ c) (h : Right c) (r : List Int) : dec8 (seq1 c ++ r) = c :: dec8 r := by
  have e := one_seq c h0 h r
  have hl := seq1_len c
  obtain ⟨x, t, hx⟩ : ∃ x t, seq1 c = x :: t := by
    cases hs : seq1 c with
    | nil => rw [hs] at hl; simp at hl
    | cons x t => exact ⟨x, t, rfl⟩
  rw [hx] at e ⊢
  rw [List.cons_append] at e ⊢
  rw [decode_cons, e]
  simp
theorem decode_enc : ∀ l : List Int, (∀ c ∈ l, 0 ≤ c ∧ Right c) → dec8 (enc l) = l
  | [], _ => by rw [enc_nil, decode_nil]
  | c :: l, h => by
    rw [enc_cons, decode_seq c (h c List.mem_cons_self).1 (h c List.mem_cons_self).2, decode_enc l (fun d hd => h d (List.mem_cons_of_mem _ hd))]
#print axioms decode_enc
#print axioms enc_decode
end Go.Proofs.YtcofbakhhcgbfaaDoor.Utf
