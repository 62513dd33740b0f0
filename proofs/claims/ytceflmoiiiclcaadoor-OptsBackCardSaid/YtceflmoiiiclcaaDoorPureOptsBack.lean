/- OptsBack, the plain law: a job that arguments were is printed, and read as it was. Conditions: the choices are bytes. -/
import Derived.Test.YtceflmoiiiclcaaDoorPureParse
import Derived.Test.YtceflmoiiiclcaaDoorPB1
namespace Go.Proofs.YtceflmoiiiclcaaDoor.Pure
open Go.RowKit Go.Proofs.YtceflmoiiiclcaaDoorW.PrintWords Go.Proofs.YtceflmoiiiclcaaDoorW.PrintLast Go.Proofs.YtceflmoiiiclcaaDoor.Utf
open EC Par
set_option linter.unusedVariables false
set_option linter.unusedSimpArgs false
def allL : List ByteArray := [(⟨#[45, 110]⟩ : ByteArray), (⟨#[45, 69]⟩ : ByteArray), (⟨#[45, 115]⟩ : ByteArray), (⟨#[45, 105]⟩ : ByteArray), (⟨#[45, 101]⟩ : ByteArray), (⟨#[112]⟩ : ByteArray), (⟨#[45, 101, 112]⟩ : ByteArray), (⟨#[45, 102]⟩ : ByteArray), (⟨#[115]⟩ : ByteArray), (⟨#[45, 99]⟩ : ByteArray), (⟨#[117, 116, 102, 45, 49, 54]⟩ : ByteArray), (⟨#[45, 99, 108, 97, 116, 105, 110, 49]⟩ : ByteArray), (⟨#[45, 76]⟩ : ByteArray), (⟨#[108, 111, 99]⟩ : ByteArray), (⟨#[45, 45]⟩ : ByteArray), (⟨#[120]⟩ : ByteArray), (⟨#[121]⟩ : ByteArray), (⟨#[45, 110, 101]⟩ : ByteArray), (⟨#[45, 110, 69]⟩ : ByteArray), (⟨#[45, 122]⟩ : ByteArray), (⟨#[45]⟩ : ByteArray), (⟨#[45, 99]⟩ : ByteArray), (⟨#[]⟩ : ByteArray), (⟨#[45, 102, 115]⟩ : ByteArray), (⟨#[45, 102, 110, 111, 110, 101]⟩ : ByteArray)]
theorem allL_len : allL.length = 25 := rfl
theorem allL_sizes : ∀ z ∈ allL, z.size ≤ 100 := fun z hz => of_decide_eq_true (List.all_eq_true.1 (show allL.all (fun z => decide (z.size ≤ 100)) = true by kernel_rfl) z hz)
theorem args_loop (l : List Int) (hl : ∀ x ∈ l, (Lit.int .u8 x).wf = true) : ∀ (n k j : Nat) (acc : List ByteArray), n = 10 - j → j ≤ 10 → acc.length ≤ j → (∀ z ∈ acc, z.size ≤ 100) → ∃ r, PB.redactorlaw19_Args.l0 (k + 1 + n) l allL acc (j : Int) = some r ∧ r.length ≤ 10 ∧ ∀ z ∈ r, z.size ≤ 100 := by
  intro n
  induction n with
  | zero =>
    intro k j acc hn hj ha hz
    show ∃ r, PB.redactorlaw19_Args.l0 (k + 1) l allL acc (j : Int) = some r ∧ _
    rw [PB.redactorlaw19_Args.l0]
    by_cases c : (j : Int) < (l.length : Int)
    · rw [if_pos c, if_neg (by omega)]
      exact ⟨_, rfl, by omega, hz⟩
    · rw [if_neg c]
      exact ⟨_, rfl, by omega, hz⟩
  | succ n ih =>
    intro k j acc hn hj ha hz
    show ∃ r, PB.redactorlaw19_Args.l0 ((k + 1 + n) + 1) l allL acc (j : Int) = some r ∧ _
    rw [PB.redactorlaw19_Args.l0]
    by_cases c : (j : Int) < (l.length : Int)
    · have hx : 0 ≤ rd l (j : Int) ∧ rd l (j : Int) < 256 := by
        have h1 : rd l (j : Int) = l[j]'(by omega) := by
          show l.getD ((j : Int)).toNat 0 = _
          rw [Int.toNat_natCast, List.getD_eq_getElem?_getD, List.getElem?_eq_getElem (by omega)]
          rfl
        rw [h1]
        exact wf_u8 (hl _ (List.getElem_mem _))
      have hw : wrap64 (rd l (j : Int)) = rd l (j : Int) := by unfold wrap64; omega
      have hm : Int.tmod (rd l (j : Int)) ((25 : Nat) : Int) = rd l (j : Int) % 25 := Int.tmod_eq_emod_of_nonneg hx.1
      have hw2 : wrap64 ((j : Int) + 1) = ((j + 1 : Nat) : Int) := by unfold wrap64; omega
      rw [allL_len, hw, hm, hw2, if_pos c, if_pos (by omega), if_pos (by omega), if_neg (by omega), if_pos (by omega), if_pos (by omega), if_pos (by omega)]
      refine ih k (j + 1) _ (by omega) (by omega) (by simp; omega) (mem_snoc hz ?_)
      have hi : (rd l (j : Int) % 25).toNat < allL.length := by rw [allL_len]; omega
      have h2 : rdOf ByteArray.empty allL (rd l (j : Int) % 25) = allL[(rd l (j : Int) % 25).toNat]'hi := by
        show allL.getD _ _ = _
        rw [List.getD_eq_getElem?_getD, List.getElem?_eq_getElem hi]
        rfl
      rw [h2]
      exact allL_sizes _ (List.getElem_mem hi)
    · rw [if_neg c]
      exact ⟨_, rfl, by omega, hz⟩
theorem args_ok (l : List Int) (hl : ∀ x ∈ l, (Lit.int .u8 x).wf = true) (k : Nat) : ∃ r, PB.redactorlaw19_Args.f (k + 11) l = some r ∧ r.length ≤ 10 ∧ ∀ z ∈ r, z.size ≤ 100 :=
  args_loop l hl 10 k 0 [] rfl (by omega) (by simp) (fun _ h => by cases h)
theorem sameB_l0 (xs : List ByteArray) (hx : xs.length ≤ 1000) : ∀ (n : Nat) (k : Nat) (j : Nat), n = xs.length - j → n < k → PB.redactorref19_SameTexts.l0 k xs xs (j : Int) = some true := by
  intro n
  induction n with
  | zero =>
    intro k j h1 h2
    obtain ⟨k, rfl⟩ : ∃ m, k = m + 1 := ⟨k - 1, by omega⟩
    rw [PB.redactorref19_SameTexts.l0]
    rw [if_neg (by omega)]
  | succ n ih =>
    intro k j h1 h2
    obtain ⟨k, rfl⟩ : ∃ m, k = m + 1 := ⟨k - 1, by omega⟩
    rw [PB.redactorref19_SameTexts.l0]
    rw [if_pos (by omega), if_pos (by omega), if_pos (by omega), if_pos rfl]
    have hw : wrap64 ((j : Int) + 1) = ((j + 1 : Nat) : Int) := by unfold wrap64; omega
    rw [hw]
    exact ih k (j + 1) (by omega) (by omega)
theorem sameB_f (xs : List ByteArray) (k : Nat) (hx : xs.length ≤ 1000) (hk : 1000 < k) : PB.redactorref19_SameTexts.f k xs xs = some true := by
  unfold PB.redactorref19_SameTexts.f
  rw [if_pos rfl]
  exact sameB_l0 xs hx _ k 0 rfl (by omega)
theorem sameJ (k : Nat) (hk : 1000 < k) (q x a i : Bool) (sc : ByteArray) (en : Int) (lo : ByteArray) (fl : List ByteArray) (hf : fl.length ≤ 1000) : PB.redactorref19_Same.f k q x a i sc en lo fl q x a i sc en lo fl = some true := by
  unfold PB.redactorref19_Same.f
  rw [if_pos (by simp), if_pos (by simp), if_pos (by simp), if_pos (by simp), if_pos rfl, if_pos rfl, if_pos rfl, sameB_f fl k hf hk]
  rfl
theorem printF_sizes (q x a i : Bool) (sc : ByteArray) (en : Int) (lo : ByteArray) (fl : List ByteArray) (hs : sc.size < 4611686018427387904) (hl : lo.size < 4611686018427387904) (hf : ∀ z ∈ fl, z.size < 4611686018427387904) : ∀ z ∈ printF q x a i sc en lo fl, z.size < 4611686018427387904 := by
  have h : ∀ (b : Bool) (l : List ByteArray), (∀ z ∈ l, z.size < 4611686018427387904) → ∀ z ∈ (if b = true then l else []), z.size < 4611686018427387904 := by
    intro b l h z hz
    cases b
    · cases hz
    · exact h z hz
  have ap : ∀ (l m : List ByteArray), (∀ z ∈ l, z.size < 4611686018427387904) → (∀ z ∈ m, z.size < 4611686018427387904) → ∀ z ∈ l ++ m, z.size < 4611686018427387904 := by
    intro l m h1 h2 z hz
    rcases List.mem_append.1 hz with hz | hz
    · exact h1 z hz
    · exact h2 z hz
  unfold printF
  refine ap _ _ (ap _ _ (ap _ _ (ap _ _ (ap _ _ (ap _ _ (ap _ _ (ap _ _ (ap _ _ (fun _ hz => by cases hz) (h _ _ (sizes _ (by kernel_rfl)))) (h _ _ (sizes _ (by kernel_rfl)))) (h _ _ (sizes _ (by kernel_rfl)))) (h _ _ (sizes _ (by kernel_rfl)))) (h _ _ (sizes _ (by kernel_rfl)))) (h _ _ (sizes _ (by kernel_rfl)))) (h _ _ ?_)) (h _ _ ?_)) hf
  · intro z hz
    simp only [List.mem_cons, List.not_mem_nil, or_false] at hz
    rcases hz with rfl | rfl
    · exact (by decide : (2 : Nat) < 4611686018427387904)
    · exact hl
  · intro z hz
    simp only [List.mem_cons, List.not_mem_nil, or_false] at hz
    rcases hz with rfl | rfl | rfl
    · exact (by decide : (2 : Nat) < 4611686018427387904)
    · exact hs
    · exact (by decide : (2 : Nat) < 4611686018427387904)
theorem OptsBack : PB.redactorlaw19_OptsBack.Pure := by
  intro l _ _ hl
  obtain ⟨args, ha, hlen, hsz⟩ := args_ok l hl 1990
  obtain ⟨r, hr, hb, hg⟩ := parseF_ok 100 PX.filesL (by
    intro x hx
    exact of_decide_eq_true (List.all_eq_true.1 (show PX.filesL.all (fun x => decide (x.f1.length ≤ 100)) = true by kernel_rfl) x hx)) (by decide) args hsz
  refine ⟨1990 + 11, ?_⟩
  unfold PB.redactorlaw19_OptsBack.f
  rw [ha, Option.bind_some]
  show ((some PX.filesL).bind _) = _
  rw [Option.bind_some, parse_f _ _ _ (fun z hz => by have := hsz z hz; omega) (by decide), hr, Option.bind_some]
  by_cases c : r.2.2.2.2.2.2.2.2.1 = 0
  · rw [if_pos c]
    obtain ⟨s, frs, os, rfl, hok, hos, hol, hjs, _⟩ := hg c
    show ((PX.opts_Print.f _ s.q s.x s.a s.i (joinS frs) s.en s.lo os).bind _) = _
    have e : PX.opts_Print.f (1990 + 11) s.q s.x s.a s.i (joinS frs) s.en s.lo os = some (printF s.q s.x s.a s.i (joinS frs) s.en s.lo os) := by unfold PX.opts_Print.f; rw [if_pos (by omega)]
    have hlo := hok.lo
    rw [e, Option.bind_some, parse_f _ _ _ (printF_sizes _ _ _ _ _ _ _ _ (by omega) (by omega) (fun z hz => by have := hos z hz; omega)) (by decide), back _ _ _ _ _ _ _ _ hok.en hok.ia (by omega) hjs, Option.bind_some]
    show ((PB.redactorref19_Same.f _ s.q s.x s.a s.i (joinS frs) s.en s.lo os s.q s.x s.a s.i (joinS frs) s.en s.lo os).bind _) = _
    rw [sameJ _ (by decide) _ _ _ _ _ _ _ _ (by omega), Option.bind_some, known_x, Option.bind_some, if_pos rfl, if_pos rfl]
  · rw [if_neg c, known_x, Option.bind_some, if_pos rfl]
    have h1 := hb c
    rw [if_pos h1.1, Option.bind_some, decide_eq_true h1.2]
#print axioms OptsBack
end Go.Proofs.YtceflmoiiiclcaaDoor.Pure
