/- OptsFragments, the plain law: scripts that are told one behind the other are one, with ends of lines between. No conditions beyond the argument's type. -/
import Derived.Test.YtceflmoiiiclcaaDoorPureKnown19
import Derived.Test.YtceflmoiiiclcaaDoorPF1
namespace Go.Proofs.YtceflmoiiiclcaaDoor.Pure
open Go.RowKit Go.Proofs.YtceflmoiiiclcaaDoorW.PrintWords Go.Proofs.YtceflmoiiiclcaaDoorW.PrintLast Go.Proofs.YtceflmoiiiclcaaDoor.Utf
open EC
set_option linter.unusedVariables false
set_option linter.unusedSimpArgs false

def flat (xs : List ByteArray) : List ByteArray := xs.flatMap fun z => [(⟨#[45, 101]⟩ : ByteArray), z]
theorem flat_cons (z : ByteArray) (xs : List ByteArray) : flat (z :: xs) = (⟨#[45, 101]⟩ : ByteArray) :: z :: flat xs := by simp [flat]
theorem flat_len (xs : List ByteArray) : (flat xs).length = 2 * xs.length := by
  induction xs with
  | nil => rfl
  | cons z xs ih => rw [flat_cons, List.length_cons, List.length_cons, ih, List.length_cons]; omega
theorem flat_app (xs : List ByteArray) (z : ByteArray) : flat (xs ++ [z]) = flat xs ++ [(⟨#[45, 101]⟩ : ByteArray), z] := by simp [flat]
theorem flat_sizes (xs : List ByteArray) (h : ∀ z ∈ xs, z.size ≤ 40) : ∀ z ∈ flat xs, z.size < 4611686018427387904 := by
  intro z hz
  unfold flat at hz
  obtain ⟨y, hy, hz2⟩ := List.mem_flatMap.1 hz
  simp only [List.mem_cons, List.not_mem_nil, or_false] at hz2
  rcases hz2 with rfl | rfl
  · exact (by decide : (2 : Nat) < 4611686018427387904)
  · have := h _ hy
    omega
theorem parseL_succ' (l : List PX.S54) (d : Nat) (z : ByteArray) (rest : List ByteArray) (i : Nat) (s : St) (frs os : List ByteArray) : parseL l (d + 1) (z :: rest) i s frs os =
    if (z.toList == ([45, 45] : List UInt8)) = true then some (.inr (s, frs, os ++ rest))
    else if 1 < z.size ∧ bt z 0 = 45 then (letF l z rest.head? (z.size + 1) 1 s frs).bind fun r => if r.2.2.2 = 0 then parseL l d ((z :: rest).drop r.2.2.1.toNat) (i + r.2.2.1.toNat) r.1 r.2.1 os else some (.inl (r.2.2.2, (i : Int)))
    else parseL l d rest (i + 1) s frs (os ++ [z]) := rfl
theorem parse_frag : ∀ (xs : List ByteArray) (d i : Nat) (frs : List ByteArray), parseL [] (d + xs.length) (flat xs) i st0 frs [] = parseL [] d [] (i + 2 * xs.length) st0 (frs ++ xs) [] := by
  intro xs
  induction xs with
  | nil => intro d i frs; rw [List.append_nil]; rfl
  | cons z xs ih =>
    intro d i frs
    rw [flat_cons]
    show parseL [] ((d + xs.length) + 1) _ i st0 frs [] = _
    rw [parseL_succ', if_neg (by decide +kernel), if_pos ⟨(show 1 < (2 : Nat) by decide), rfl⟩]
    show (((some (st0, frs ++ [z], (2 : Int), (0 : Int))).bind fun r => if r.2.2.2 = 0 then parseL [] (d + xs.length) (((⟨#[45, 101]⟩ : ByteArray) :: z :: flat xs).drop r.2.2.1.toNat) (i + r.2.2.1.toNat) r.1 r.2.1 [] else some (.inl (r.2.2.2, (i : Int))))) = _
    rw [Option.bind_some, if_pos rfl]
    show parseL [] (d + xs.length) (flat xs) (i + 2) st0 (frs ++ [z]) [] = _
    rw [ih d (i + 2) (frs ++ [z])]
    rw [show i + 2 + 2 * xs.length = i + 2 * (z :: xs).length by simp only [List.length_cons]; omega, List.append_assoc]
    rfl
theorem join_app (xs : List (List UInt8)) (z : List UInt8) (h : xs ≠ []) : Lib.join (xs ++ [z]) [10] = Lib.join xs [10] ++ [10] ++ z := by
  rcases xs with _ | ⟨x, r⟩
  · exact absurd rfl h
  · rw [List.cons_append, Lib.join_cons, Lib.join_cons]
    simp [Lib.joinTail, List.append_assoc]
theorem parse_all_frag (xs : List ByteArray) (h0 : xs ≠ []) (hl : xs.length ≤ 15) (hj : (Lib.join (xs.map (·.data.toList)) [10]).length ≤ 1000) :
    parseF [] (flat xs) = some (false, false, false, false, joinS xs, 1, ⟨#[]⟩, [], 0, 0) := by
  unfold parseF
  rw [if_neg (by rw [flat_len]; omega), flat_len]
  have e := parse_frag xs (xs.length + 1) 0 []
  rw [show xs.length + 1 + xs.length = 2 * xs.length + 1 by omega] at e
  rw [e, List.nil_append]
  show (some (Sum.inr (st0, xs, ([] : List ByteArray)))).bind _ = _
  rw [Option.bind_some]
  rcases xs with _ | ⟨x, r⟩
  · exact absurd rfl h0
  · show fin st0 (x :: r) [] = _
    unfold fin
    rw [if_pos (by omega)]
    rfl
theorem rdOf_at (l : List ByteArray) (i : Nat) (h : i < l.length) : rdOf ByteArray.empty l (i : Int) = l[i] := by
  unfold rdOf
  simp [List.getElem?_eq_getElem h]
theorem ba_list (a b : ByteArray) : (a ++ b).data.toList = a.data.toList ++ b.data.toList := by
  rw [ByteArray.data_append]; simp
theorem frag_l0 (l : List ByteArray) (h0 : l ≠ []) (hl : l.length ≤ 15) : ∀ (d i : Nat) (x4 : ByteArray), i + d = l.length → (∀ z ∈ l.take i, z.size ≤ 40) → x4.size ≤ 41 * i → x4.data.toList = Lib.join ((l.take i).map (·.data.toList)) [10] →
    ∀ k, PF.redactorlaw19_OptsFragments.l0 (k + 1 + d) l (flat (l.take i)) x4 (i : Int) = some true := by
  intro d
  induction d with
  | zero =>
    intro i x4 hi hz hs hx k
    have ht : l.take i = l := List.take_of_length_le (by omega)
    rw [ht] at hz hx ⊢
    have hsz : x4.data.toList.length = x4.size := by show x4.data.toList.length = x4.data.size; simp
    have hp := parse_all_frag l h0 hl (by rw [← hx, hsz]; omega)
    simp only [Nat.add_zero, PF.redactorlaw19_OptsFragments.l0]
    rw [if_neg (by omega), parse_f _ _ _ (flat_sizes l hz) (by decide), hp, Option.bind_some, known_x, Option.bind_some, if_pos rfl]
    have e : (joinS l).toList = x4.toList := by
      rw [ByteArray.toList_eq, ByteArray.toList_eq, hx]
      unfold joinS
      simp
    show (if (0 : Int) = 0 then (if (joinS l).toList = x4.toList then some (((([] : List ByteArray).length : Nat) : Int) == 0) else some false) else some false) = some true
    rw [if_pos rfl, if_pos e]
    rfl
  | succ d ih =>
    intro i x4 hi hz hs hx k
    have hlt : i < l.length := by omega
    have ew : wrap64 ((i : Int) + 1) = ((i + 1 : Nat) : Int) := by unfold wrap64; omega
    show PF.redactorlaw19_OptsFragments.l0 ((k + 1 + d) + 1) l (flat (l.take i)) x4 (i : Int) = some true
    simp only [PF.redactorlaw19_OptsFragments.l0]
    rw [if_pos (by omega), if_pos (by omega), rdOf_at l i hlt]
    by_cases hb : ((l[i]).size : Int) > 40
    · rw [if_pos hb, known_x, Option.bind_some]
    · rw [if_neg hb]
      simp only [Option.bind_some]
      have e1 : flat (l.take i) ++ [(⟨#[45, 101]⟩ : ByteArray), l[i]] = flat (l.take (i + 1)) := by
        rw [List.take_succ_eq_append_getElem hlt, flat_app]
      have hz2 : ∀ z ∈ l.take (i + 1), z.size ≤ 40 := by
        intro z hzz
        rw [List.take_succ_eq_append_getElem hlt] at hzz
        rcases List.mem_append.1 hzz with q | q
        · exact hz z q
        · rw [List.mem_singleton.1 q]; omega
      have hfl : (flat (l.take i)).length = 2 * i := by rw [flat_len, List.length_take, Nat.min_eq_left (by omega)]
      rw [if_pos (by rw [hfl]; simp only [List.length_cons, List.length_nil]; omega), e1, ew]
      have e10 : ((⟨#[10]⟩ : ByteArray)).size = 1 := rfl
      by_cases hi0 : (i : Int) > 0
      · have hne : (l.take i).map (·.data.toList) ≠ [] := by
          intro q
          have h2 := congrArg List.length q
          rw [List.length_map, List.length_take] at h2
          simp only [List.length_nil] at h2
          omega
        have hs2 : (x4 ++ (⟨#[10]⟩ : ByteArray)).size = x4.size + 1 := ByteArray.size_append
        rw [if_pos hi0, if_pos (by omega), if_pos (by rw [hs2]; omega)]
        refine ih (i + 1) _ (by omega) hz2 ?_ ?_ k
        · rw [ByteArray.size_append, hs2]; omega
        · rw [List.take_succ_eq_append_getElem hlt, List.map_append, List.map_cons, List.map_nil, join_app _ _ hne, ba_list, ba_list, hx]
      · have hi1 : i = 0 := by omega
        subst hi1
        rw [if_neg hi0, if_pos (by omega)]
        refine ih (0 + 1) _ (by omega) hz2 ?_ ?_ k
        · rw [ByteArray.size_append]; omega
        · rw [List.take_succ_eq_append_getElem hlt, ba_list, hx]
          simp [Lib.join_one, Lib.join_nil]
theorem OptsFragments (l : List ByteArray) : ∃ k, PF.redactorlaw19_OptsFragments.f k l = some true := by
  refine ⟨1 + 1 + l.length, ?_⟩
  have out : ∀ k, PF.redactorlaw19_OptsFragments.j0 (k + 1) l true = some true := fun k => by
    simp only [PF.redactorlaw19_OptsFragments.j0]
    rw [if_pos trivial, known_x, Option.bind_some]
  rw [show 1 + 1 + l.length = (l.length + 1) + 1 by omega]
  unfold PF.redactorlaw19_OptsFragments.f
  by_cases h1 : (l.length : Int) = 0
  · rw [if_pos h1, out]
  · rw [if_neg h1]
    by_cases h2 : (l.length : Int) > 15
    · rw [decide_eq_true h2, out]
    · rw [decide_eq_false h2]
      simp only [PF.redactorlaw19_OptsFragments.j0]
      rw [if_neg (by decide)]
      have h0 : l ≠ [] := fun q => h1 (by rw [q]; rfl)
      have h3 := frag_l0 l h0 (by omega) l.length 0 ⟨#[]⟩ (by omega) (fun z hz => by cases hz) (by decide) rfl 0
      rw [show 0 + 1 + l.length = l.length + 1 by omega] at h3
      exact h3
#print axioms OptsFragments
end Go.Proofs.YtceflmoiiiclcaaDoor.Pure
