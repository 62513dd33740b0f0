/- OptsNone, the plain law: letters that ask for more, and have none, are told by their place; so is a file that is not there. Conditions: the arguments are bytes. -/
import Derived.Test.YtceflmoiiiclcaaDoorPureKnown19
import Derived.Test.YtceflmoiiiclcaaDoorPN1
namespace Go.Proofs.YtceflmoiiiclcaaDoor.Pure
open Go.RowKit Go.Proofs.YtceflmoiiiclcaaDoorW.PrintWords Go.Proofs.YtceflmoiiiclcaaDoorW.PrintLast Go.Proofs.YtceflmoiiiclcaaDoor.Utf
open EC
set_option linter.unusedVariables false
set_option linter.unusedSimpArgs false
def mN (m : Nat) : List ByteArray := List.replicate m (⟨#[45, 110]⟩ : ByteArray)
def wc (c : Nat) : ByteArray := (⟨#[45]⟩ : ByteArray) ++ (⟨#[101, 102, 99, 76]⟩ : ByteArray).extract c (c + 1)
theorem none_a (m c : Nat) (hm : m < 10) (hc : c < 4) : parseF [] (mN m ++ [wc c]) = some (noJob 70 m) := by
  rcases (show m = 0 ∨ m = 1 ∨ m = 2 ∨ m = 3 ∨ m = 4 ∨ m = 5 ∨ m = 6 ∨ m = 7 ∨ m = 8 ∨ m = 9 by omega) with rfl | rfl | rfl | rfl | rfl | rfl | rfl | rfl | rfl | rfl <;> rcases (show c = 0 ∨ c = 1 ∨ c = 2 ∨ c = 3 by omega) with rfl | rfl | rfl | rfl <;> kernel_rfl
theorem none_b (m : Nat) (hm : m < 10) : parseF PX.filesL (mN m ++ [⟨#[45, 102]⟩, ⟨#[110, 111]⟩]) = some (noJob 61 m) := by
  rcases (show m = 0 ∨ m = 1 ∨ m = 2 ∨ m = 3 ∨ m = 4 ∨ m = 5 ∨ m = 6 ∨ m = 7 ∨ m = 8 ∨ m = 9 by omega) with rfl | rfl | rfl | rfl | rfl | rfl | rfl | rfl | rfl | rfl <;> kernel_rfl
theorem none_c (m : Nat) (hm : m < 10) : parseF PX.filesL (mN m ++ [⟨#[45, 99]⟩, ⟨#[110, 111]⟩]) = some (noJob 31 m) := by
  rcases (show m = 0 ∨ m = 1 ∨ m = 2 ∨ m = 3 ∨ m = 4 ∨ m = 5 ∨ m = 6 ∨ m = 7 ∨ m = 8 ∨ m = 9 by omega) with rfl | rfl | rfl | rfl | rfl | rfl | rfl | rfl | rfl | rfl <;> kernel_rfl
/-- The last one finds its file. -/
def okD (r : Option PR) : Bool := match r with
  | some r => r.2.2.2.2.2.2.2.2.1 == 0 && r.2.2.2.2.1.toList == ([112, 10, 112] : List UInt8) && r.2.2.2.2.2.1 == 1
  | none => false
theorem none_d (m : Nat) (hm : m < 10) : ∃ r : PR, parseF PX.filesL (mN m ++ [⟨#[45, 102]⟩, ⟨#[115]⟩]) = some r ∧ r.2.2.2.2.2.2.2.2.1 = 0 ∧ r.2.2.2.2.1.toList = ([112, 10, 112] : List UInt8) ∧ r.2.2.2.2.2.1 = 1 := by
  have h : okD (parseF PX.filesL (mN m ++ [⟨#[45, 102]⟩, ⟨#[115]⟩])) = true := by
    rcases (show m = 0 ∨ m = 1 ∨ m = 2 ∨ m = 3 ∨ m = 4 ∨ m = 5 ∨ m = 6 ∨ m = 7 ∨ m = 8 ∨ m = 9 by omega) with rfl | rfl | rfl | rfl | rfl | rfl | rfl | rfl | rfl | rfl <;> kernel_rfl
  unfold okD at h
  split at h
  · rename_i r hr
    simp only [Bool.and_eq_true, beq_iff_eq] at h
    exact ⟨r, hr, h.1.1, h.1.2, h.2⟩
  · cases h
theorem mN_len (m : Nat) : (mN m).length = m := List.length_replicate
theorem mN_sizes (m : Nat) (ys : List ByteArray) (h : ∀ z ∈ ys, z.size < 4611686018427387904) : ∀ z ∈ mN m ++ ys, z.size < 4611686018427387904 := by
  intro z hz
  rcases List.mem_append.1 hz with hz | hz
  · rw [(List.mem_replicate.1 hz).2]
    exact (by decide : (2 : Nat) < 4611686018427387904)
  · exact h z hz
theorem with_f (xs ys : List ByteArray) (h : xs.length + ys.length < 1000) : PN.redactorlaw19_with.f xs ys = some (xs ++ ys) := by
  unfold PN.redactorlaw19_with.f
  rw [if_pos (by simp; omega), Option.bind_some, List.nil_append, if_pos (by omega)]
theorem none_end (k : Nat) (x0 x1 : Int) (c m : Nat) (hc : c < 4) (hm : m < 10) (h0 : Int.tmod x0 4 = c) (h1 : Int.tmod x1 10 = m) : PN.redactorlaw19_OptsNone.l0 (k + 1) x0 x1 (mN m) (m : Int) = some true := by
  have e0 : ((c : Int)).toNat = c := Int.toNat_natCast c
  have e1 : (((c : Int) + 1) % 256).toNat = c + 1 := by omega
  have hw : 1 + ((⟨#[101, 102, 99, 76]⟩ : ByteArray).extract c (c + 1)).size ≤ 9223372036854775807 := by
    rcases (show c = 0 ∨ c = 1 ∨ c = 2 ∨ c = 3 by omega) with rfl | rfl | rfl | rfl <;> decide +kernel
  have hs : (wc c).size < 4611686018427387904 := by
    rcases (show c = 0 ∨ c = 1 ∨ c = 2 ∨ c = 3 by omega) with rfl | rfl | rfl | rfl <;> decide +kernel
  obtain ⟨r, hr, hr1, hr2, hr3⟩ := none_d m hm
  rw [PN.redactorlaw19_OptsNone.l0, h0, h1, if_neg (by unfold wrap64; omega), if_pos (by omega), if_pos (by omega), if_pos (by omega)]
  rw [e0, e1, if_pos hw]
  show ((PN.redactorlaw19_with.f (mN m) [wc c]).bind _) = _
  rw [with_f _ _ (by rw [mN_len]; simp; omega), Option.bind_some, parse_f k _ _ (mN_sizes m _ (by simpa using hs)) (by decide), none_a m c hm hc, Option.bind_some]
  rw [with_f _ _ (by rw [mN_len]; simp; omega), Option.bind_some]
  show ((some PX.filesL).bind _) = _
  rw [Option.bind_some, parse_f k _ _ (mN_sizes m _ (sizes _ (by kernel_rfl))) (by decide), none_b m hm, Option.bind_some]
  rw [with_f _ _ (by rw [mN_len]; simp; omega), Option.bind_some]
  show ((some PX.filesL).bind _) = _
  rw [Option.bind_some, parse_f k _ _ (mN_sizes m _ (sizes _ (by kernel_rfl))) (by decide), none_c m hm, Option.bind_some]
  rw [with_f _ _ (by rw [mN_len]; simp; omega), Option.bind_some]
  show ((some PX.filesL).bind _) = _
  rw [Option.bind_some, parse_f k _ _ (mN_sizes m _ (sizes _ (by kernel_rfl))) (by decide), hr, Option.bind_some, known_x, Option.bind_some]
  rw [if_pos rfl, if_pos (show (noJob 70 (m : Int)).2.2.2.2.2.2.2.2.1 = 70 from rfl), if_pos (show (noJob 70 (m : Int)).2.2.2.2.2.2.2.2.2 = ((mN m).length : Int) by rw [mN_len]; rfl), if_pos (show (noJob 61 (m : Int)).2.2.2.2.2.2.2.2.1 = 61 from rfl), if_pos (show (noJob 61 (m : Int)).2.2.2.2.2.2.2.2.2 = ((mN m).length : Int) by rw [mN_len]; rfl), if_pos (show (noJob 31 (m : Int)).2.2.2.2.2.2.2.2.1 = 31 from rfl), if_pos (show (noJob 31 (m : Int)).2.2.2.2.2.2.2.2.2 = ((mN m).length : Int) by rw [mN_len]; rfl), if_pos hr1, if_pos hr2, hr3]
  rfl
theorem none_loop (k : Nat) (x0 x1 : Int) (c m : Nat) (hc : c < 4) (hm : m < 10) (h0 : Int.tmod x0 4 = c) (h1 : Int.tmod x1 10 = m) : ∀ (n j : Nat), n = m - j → j ≤ m → PN.redactorlaw19_OptsNone.l0 (k + 1 + n) x0 x1 (mN j) (j : Int) = some true := by
  intro n
  induction n with
  | zero =>
    intro j hn hj
    obtain rfl : j = m := by omega
    exact none_end k x0 x1 c j hc hm h0 h1
  | succ n ih =>
    intro j hn hj
    show PN.redactorlaw19_OptsNone.l0 ((k + 1 + n) + 1) x0 x1 (mN j) (j : Int) = some true
    rw [PN.redactorlaw19_OptsNone.l0, h1, if_pos (by unfold wrap64; omega), if_pos (by rw [mN_len]; omega)]
    have hw : wrap64 ((j : Int) + 1) = ((j + 1 : Nat) : Int) := by unfold wrap64; omega
    rw [hw, show mN j ++ [(⟨#[45, 110]⟩ : ByteArray)] = mN (j + 1) from List.replicate_succ'.symm]
    exact ih (j + 1) (by omega) (by omega)
theorem OptsNone : PN.redactorlaw19_OptsNone.Pure := by
  intro a0 a1 w0 w1
  have u0 := wf_u8 w0
  have u1 := wf_u8 w1
  have t0 : Int.tmod a0 4 = ((a0 % 4).toNat : Int) := by rw [Int.tmod_eq_emod_of_nonneg u0.1]; omega
  have t1 : Int.tmod a1 10 = ((a1 % 10).toNat : Int) := by rw [Int.tmod_eq_emod_of_nonneg u1.1]; omega
  exact ⟨1 + 1 + (a1 % 10).toNat, none_loop 1 a0 a1 (a0 % 4).toNat (a1 % 10).toNat (by omega) (by omega) t0 t1 _ 0 rfl (by omega)⟩
#print axioms OptsNone
end Go.Proofs.YtceflmoiiiclcaaDoor.Pure
