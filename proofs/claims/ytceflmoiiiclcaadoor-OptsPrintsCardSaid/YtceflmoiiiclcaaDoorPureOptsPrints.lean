/- OptsPrints, the plain law: the arguments that are told are those of the document's answer. No conditions. -/
import Derived.Test.YtceflmoiiiclcaaDoorPureKnown19
import Derived.Test.YtceflmoiiiclcaaDoorPP3
namespace Go.Proofs.YtceflmoiiiclcaaDoor.Pure
open Go.RowKit Go.Proofs.YtceflmoiiiclcaaDoorW.PrintWords Go.Proofs.YtceflmoiiiclcaaDoorW.PrintLast Go.Proofs.YtceflmoiiiclcaaDoor.Utf
open EC
set_option linter.unusedVariables false
set_option linter.unusedSimpArgs false
section
variable (q x a i : Bool) (sc : ByteArray) (en : Int) (lo : ByteArray) (fl : List ByteArray)
def r2 : List ByteArray := if en == 2 then [(⟨#[45, 99]⟩ : ByteArray), (⟨#[117, 116, 102, 45, 49, 54]⟩ : ByteArray)] else []
def r3 : List ByteArray := if en == 3 then [(⟨#[45, 99]⟩ : ByteArray), (⟨#[108, 97, 116, 105, 110, 49]⟩ : ByteArray)] else []
def rl : List ByteArray := if (!lo.toList.isEmpty) then [(⟨#[45, 76]⟩ : ByteArray), lo] else []
theorem j5_ (k : Nat) (xs : List ByteArray) (h : xs.length ≤ 6) (hf : fl.length ≤ 50) :
    PP.redactorref19_Print.j5 (k + 1) xs q x a i sc en lo fl = some ((((xs ++ r3 en) ++ rl lo) ++ [(⟨#[45, 101]⟩ : ByteArray), sc, (⟨#[45, 45]⟩ : ByteArray)]) ++ fl) := by
  rw [PP.redactorref19_Print.j5]
  unfold r3 rl
  by_cases c : en = 3
  · rw [if_pos c, Option.bind_some, if_pos (by simp; omega), Option.bind_some, if_pos (show (en == 3) = true by simp [c])]
    by_cases d : lo.toList = []
    · rw [if_pos d, Option.bind_some, if_pos (by simp; omega), Option.bind_some, if_pos (by simp; omega), if_neg (show ¬ (!lo.toList.isEmpty) = true by simp [d]), List.append_nil]
    · rw [if_neg d, Option.bind_some, if_pos (by simp; omega), Option.bind_some, Option.bind_some, if_pos (by simp; omega), Option.bind_some, if_pos (by simp; omega), if_pos (show (!lo.toList.isEmpty) = true by simp [d])]
  · rw [if_neg c, if_neg (show ¬ (en == 3) = true by simp [c]), List.append_nil]
    by_cases d : lo.toList = []
    · rw [if_pos d, Option.bind_some, if_pos (by simp; omega), Option.bind_some, if_pos (by simp; omega), if_neg (show ¬ (!lo.toList.isEmpty) = true by simp [d]), List.append_nil]
    · rw [if_neg d, Option.bind_some, if_pos (by simp; omega), Option.bind_some, Option.bind_some, if_pos (by simp; omega), Option.bind_some, if_pos (by simp; omega), if_pos (show (!lo.toList.isEmpty) = true by simp [d])]
theorem j4_ (k : Nat) (xs : List ByteArray) (h : xs.length ≤ 4) (hf : fl.length ≤ 50) :
    PP.redactorref19_Print.j4 (k + 2) xs q x a i sc en lo fl = some (((((xs ++ r2 en) ++ r3 en) ++ rl lo) ++ [(⟨#[45, 101]⟩ : ByteArray), sc, (⟨#[45, 45]⟩ : ByteArray)]) ++ fl) := by
  rw [PP.redactorref19_Print.j4]
  unfold r2
  by_cases c : en = 2
  · rw [if_pos c, Option.bind_some, if_pos (by simp; omega), j5_ q x a i sc en lo fl k _ (by simp; omega) hf, if_pos (show (en == 2) = true by simp [c])]
  · rw [if_neg c, j5_ q x a i sc en lo fl k _ (by omega) hf, if_neg (show ¬ (en == 2) = true by simp [c]), List.append_nil]
theorem print_f (k : Nat) (hf : fl.length ≤ 50) : PP.redactorref19_Print.f (k + 10) q x a i sc en lo fl = some (printF q x a i sc en lo fl) := by
  cases q <;> cases x <;> cases a <;> cases i <;> simp only [PP.redactorref19_Print.f, PP.redactorref19_Print.j0, PP.redactorref19_Print.j1, PP.redactorref19_Print.j2, PP.redactorref19_Print.j3, Bool.not_true, Bool.not_false, if_true, if_false, Bool.false_eq_true, List.length_append, List.length_nil, List.length_cons, Nat.reduceAdd, Nat.reduceLT] <;> rw [show k + 6 = (k + 4) + 2 from rfl, j4_ _ _ _ _ _ _ _ _ _ _ (by simp) hf] <;> rfl
end
theorem rdOf_len (xs : List ByteArray) : True := trivial
theorem same_l0 (xs : List ByteArray) (hx : xs.length ≤ 1000) : ∀ (n : Nat) (k : Nat) (j : Nat), n = xs.length - j → n < k → PP.redactorref19_SameTexts.l0 k xs xs (j : Int) = some true := by
  intro n
  induction n with
  | zero =>
    intro k j h1 h2
    obtain ⟨k, rfl⟩ : ∃ m, k = m + 1 := ⟨k - 1, by omega⟩
    rw [PP.redactorref19_SameTexts.l0]
    rw [if_neg (by omega)]
  | succ n ih =>
    intro k j h1 h2
    obtain ⟨k, rfl⟩ : ∃ m, k = m + 1 := ⟨k - 1, by omega⟩
    rw [PP.redactorref19_SameTexts.l0]
    rw [if_pos (by omega), if_pos (by omega), if_pos (by omega), if_pos rfl]
    have hw : wrap64 ((j : Int) + 1) = ((j + 1 : Nat) : Int) := by unfold wrap64; omega
    rw [hw]
    exact ih k (j + 1) (by omega) (by omega)
theorem same_f (xs : List ByteArray) (k : Nat) (hx : xs.length ≤ 1000) (hk : 1000 < k) : PP.redactorref19_SameTexts.f k xs xs = some true := by
  unfold PP.redactorref19_SameTexts.f
  rw [if_pos rfl]
  exact same_l0 xs hx _ k 0 rfl (by omega)
theorem printF_len (q x a i : Bool) (sc : ByteArray) (en : Int) (lo : ByteArray) (fl : List ByteArray) (hf : fl.length ≤ 50) : (printF q x a i sc en lo fl).length ≤ 1000 := by
  unfold printF
  have h : ∀ (b : Bool) (l : List ByteArray), (if b = true then l else []).length ≤ l.length := by intro b l; cases b <;> simp
  simp only [List.length_append]
  have h1 := h q [(⟨#[45, 110]⟩ : ByteArray)]
  have h2 := h x [(⟨#[45, 69]⟩ : ByteArray)]
  have h3 := h (a && !i) [(⟨#[45, 115]⟩ : ByteArray)]
  have h4 := h i [(⟨#[45, 105]⟩ : ByteArray)]
  have h5 := h (en == 2) [(⟨#[45, 99]⟩ : ByteArray), (⟨#[117, 116, 102, 45, 49, 54]⟩ : ByteArray)]
  have h6 := h (en == 3) [(⟨#[45, 99]⟩ : ByteArray), (⟨#[108, 97, 116, 105, 110, 49]⟩ : ByteArray)]
  have h7 := h (!lo.toList.isEmpty) [(⟨#[45, 76]⟩ : ByteArray), lo]
  have h8 := h true [(⟨#[45, 101]⟩ : ByteArray), sc, (⟨#[45, 45]⟩ : ByteArray)]
  simp only [List.length_cons, List.length_nil] at *
  omega
theorem OptsPrints (a0 a1 a2 a3 : Bool) (a4 : ByteArray) (a5 : Int) (a6 : ByteArray) (l : List ByteArray) : ∃ k, PP.redactorlaw19_OptsPrints.f k a0 a1 a2 a3 a4 a5 a6 l = some true := by
  refine ⟨2001, ?_⟩
  unfold PP.redactorlaw19_OptsPrints.f
  by_cases c : (l.length : Int) > 50
  · rw [if_pos c]
    rw [PP.redactorlaw19_OptsPrints.j0]
    rw [if_pos rfl, known_x, Option.bind_some]
  · rw [if_neg c, known_x, Option.bind_some]
    have hl : l.length ≤ 50 := by omega
    rw [PP.redactorlaw19_OptsPrints.j0]
    rw [if_neg (by decide)]
    have e : PX.opts_Print.f 2000 a0 a1 a2 a3 a4 a5 a6 l = some (printF a0 a1 a2 a3 a4 a5 a6 l) := by unfold PX.opts_Print.f; rw [if_pos (by omega)]
    rw [e, Option.bind_some, show (2000 : Nat) = 1990 + 10 from rfl, print_f a0 a1 a2 a3 a4 a5 a6 l 1990 hl, Option.bind_some, same_f _ _ (printF_len a0 a1 a2 a3 a4 a5 a6 l hl) (by decide), Option.bind_some]
#print axioms OptsPrints
end Go.Proofs.YtceflmoiiiclcaaDoor.Pure
