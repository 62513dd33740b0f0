/- OptsParse, the plain law: Parse of any arguments, and of choices, is what the document's answer says. Conditions: sizes of arguments and of files' data; the choices are bytes. -/
import Derived.Test.YtceflmoiiiclcaaDoorPureParse
import Derived.Test.YtceflmoiiiclcaaDoorPQ1
namespace Go.Proofs.YtceflmoiiiclcaaDoor.Pure
open Go.RowKit Go.Proofs.YtceflmoiiiclcaaDoorW.PrintWords Go.Proofs.YtceflmoiiiclcaaDoorW.PrintLast Go.Proofs.YtceflmoiiiclcaaDoor.Utf
open EC Par
set_option linter.unusedVariables false
set_option linter.unusedSimpArgs false
def allQ : List ByteArray := [(⟨#[45, 110]⟩ : ByteArray), (⟨#[45, 69]⟩ : ByteArray), (⟨#[45, 115]⟩ : ByteArray), (⟨#[45, 105]⟩ : ByteArray), (⟨#[45, 101]⟩ : ByteArray), (⟨#[112]⟩ : ByteArray), (⟨#[45, 101, 112]⟩ : ByteArray), (⟨#[45, 102]⟩ : ByteArray), (⟨#[115]⟩ : ByteArray), (⟨#[45, 99]⟩ : ByteArray), (⟨#[117, 116, 102, 45, 49, 54]⟩ : ByteArray), (⟨#[45, 99, 108, 97, 116, 105, 110, 49]⟩ : ByteArray), (⟨#[45, 76]⟩ : ByteArray), (⟨#[108, 111, 99]⟩ : ByteArray), (⟨#[45, 45]⟩ : ByteArray), (⟨#[120]⟩ : ByteArray), (⟨#[121]⟩ : ByteArray), (⟨#[45, 110, 101]⟩ : ByteArray), (⟨#[45, 110, 69]⟩ : ByteArray), (⟨#[45, 122]⟩ : ByteArray), (⟨#[45]⟩ : ByteArray), (⟨#[45, 99]⟩ : ByteArray), (⟨#[]⟩ : ByteArray), (⟨#[45, 102, 115]⟩ : ByteArray), (⟨#[45, 102, 110, 111, 110, 101]⟩ : ByteArray)]
theorem allQ_len : allQ.length = 25 := rfl
theorem allQ_sizes : ∀ z ∈ allQ, z.size ≤ 100 := fun z hz => of_decide_eq_true (List.all_eq_true.1 (show allQ.all (fun z => decide (z.size ≤ 100)) = true by kernel_rfl) z hz)
theorem argsQ_loop (l : List Int) (hl : ∀ x ∈ l, (Lit.int .u8 x).wf = true) : ∀ (n k j : Nat) (acc : List ByteArray), n = 10 - j → j ≤ 10 → acc.length ≤ j → (∀ z ∈ acc, z.size ≤ 100) → ∃ r, PQ.redactorlaw19_Args.l0 (k + 1 + n) l allQ acc (j : Int) = some r ∧ r.length ≤ 10 ∧ ∀ z ∈ r, z.size ≤ 100 := by
  intro n
  induction n with
  | zero =>
    intro k j acc hn hj ha hz
    show ∃ r, PQ.redactorlaw19_Args.l0 (k + 1) l allQ acc (j : Int) = some r ∧ _
    rw [PQ.redactorlaw19_Args.l0]
    by_cases c : (j : Int) < (l.length : Int)
    · rw [if_pos c, if_neg (by omega)]
      exact ⟨_, rfl, by omega, hz⟩
    · rw [if_neg c]
      exact ⟨_, rfl, by omega, hz⟩
  | succ n ih =>
    intro k j acc hn hj ha hz
    show ∃ r, PQ.redactorlaw19_Args.l0 ((k + 1 + n) + 1) l allQ acc (j : Int) = some r ∧ _
    rw [PQ.redactorlaw19_Args.l0]
    by_cases c : (j : Int) < (l.length : Int)
    · have hx : 0 ≤ rd l (j : Int) ∧ rd l (j : Int) < 256 := by
        have h1 : rd l (j : Int) = l[j]'(by omega) := by
          show l.getD ((j : Int)).toNat 0 = _
          rw [Int.toNat_natCast, List.getD_eq_getElem?_getD, List.getElem?_eq_getElem (by omega)]
          rfl
        rw [h1]
        exact wf_u8 (hl _ (List.getElem_mem _))
      have hw : wrap64 (rd l (j : Int)) = rd l (j : Int) := by unfold wrap64; omega
      have hm : Int.tmod (rd l (j : Int)) ((25 : Nat) : Int) = rd l (j : Int) % 25 := Int.tmod_eq_emod_of_nonneg hx.1
      have hw2 : wrap64 ((j : Int) + 1) = ((j + 1 : Nat) : Int) := by unfold wrap64; omega
      rw [allQ_len, hw, hm, hw2, if_pos c, if_pos (by omega), if_pos (by omega), if_neg (by omega), if_pos (by omega), if_pos (by omega), if_pos (by omega)]
      refine ih k (j + 1) _ (by omega) (by omega) (by simp; omega) (mem_snoc hz ?_)
      have hi : (rd l (j : Int) % 25).toNat < allQ.length := by rw [allQ_len]; omega
      have h2 : rdOf ByteArray.empty allQ (rd l (j : Int) % 25) = allQ[(rd l (j : Int) % 25).toNat]'hi := by
        show allQ.getD _ _ = _
        rw [List.getD_eq_getElem?_getD, List.getElem?_eq_getElem hi]
        rfl
      rw [h2]
      exact allQ_sizes _ (List.getElem_mem hi)
    · rw [if_neg c]
      exact ⟨_, rfl, by omega, hz⟩
theorem argsQ_ok (l : List Int) (hl : ∀ x ∈ l, (Lit.int .u8 x).wf = true) (k : Nat) : ∃ r, PQ.redactorlaw19_Args.f (k + 11) l = some r ∧ r.length ≤ 10 ∧ ∀ z ∈ r, z.size ≤ 100 :=
  argsQ_loop l hl 10 k 0 [] rfl (by omega) (by simp) (fun _ h => by cases h)
theorem sameQ_l0 (xs : List ByteArray) (hx : xs.length ≤ 1000) : ∀ (n : Nat) (k : Nat) (j : Nat), n = xs.length - j → n < k → PQ.redactorref19_SameTexts.l0 k xs xs (j : Int) = some true := by
  intro n
  induction n with
  | zero =>
    intro k j h1 h2
    obtain ⟨k, rfl⟩ : ∃ m, k = m + 1 := ⟨k - 1, by omega⟩
    rw [PQ.redactorref19_SameTexts.l0]
    rw [if_neg (by omega)]
  | succ n ih =>
    intro k j h1 h2
    obtain ⟨k, rfl⟩ : ∃ m, k = m + 1 := ⟨k - 1, by omega⟩
    rw [PQ.redactorref19_SameTexts.l0]
    rw [if_pos (by omega), if_pos (by omega), if_pos (by omega), if_pos rfl]
    have hw : wrap64 ((j : Int) + 1) = ((j + 1 : Nat) : Int) := by unfold wrap64; omega
    rw [hw]
    exact ih k (j + 1) (by omega) (by omega)
theorem sameQ_f (xs : List ByteArray) (k : Nat) (hx : xs.length ≤ 1000) (hk : 1000 < k) : PQ.redactorref19_SameTexts.f k xs xs = some true := by
  unfold PQ.redactorref19_SameTexts.f
  rw [if_pos rfl]
  exact sameQ_l0 xs hx _ k 0 rfl (by omega)
theorem sameQJ (k : Nat) (hk : 1000 < k) (q x a i : Bool) (sc : ByteArray) (en : Int) (lo : ByteArray) (fl : List ByteArray) (hf : fl.length ≤ 1000) : PQ.redactorref19_Same.f k q x a i sc en lo fl q x a i sc en lo fl = some true := by
  unfold PQ.redactorref19_Same.f
  rw [if_pos (by simp), if_pos (by simp), if_pos (by simp), if_pos (by simp), if_pos rfl, if_pos rfl, if_pos rfl, sameQ_f fl k hf hk]
  rfl
theorem word_er {l : List PX.S54} {k : Int} {t : ByteArray} {s s' : St} {frs frs' : List ByteArray} {er : Int} (h : wordF l k t s frs = some (s', frs', er)) : 0 ≤ er ∧ er ≤ 100 := by
  unfold wordF at h
  split at h
  · cases h; decide
  · split at h
    · split at h
      · cases h; decide
      · obtain ⟨tr, _, he⟩ := Option.map_eq_some_iff.1 h
        cases he; decide
    · split at h
      · split at h
        · cases h; decide
        · cases h; decide
      · split at h
        · cases h; decide
        · cases h
theorem let_er {l : List PX.S54} {z : ByteArray} {next : Option ByteArray} : ∀ {d k : Nat} {s s' : St} {frs frs' : List ByteArray} {n er : Int}, letF l z next d k s frs = some (s', frs', n, er) → 0 ≤ er ∧ er ≤ 100
  | 0, _, _, _, _, _, _, _, h => by cases h
  | d + 1, k, s, s', frs, frs', n, er, h => by
    unfold letF at h
    split at h
    · split at h
      · exact let_er h
      · split at h
        · exact let_er h
        · split at h
          · exact let_er h
          · split at h
            · exact let_er h
            · split at h
              · split at h
                · obtain ⟨⟨s2, f2, e2⟩, hw, he⟩ := Option.map_eq_some_iff.1 h
                  cases he
                  exact word_er hw
                · split at h
                  · cases h; decide
                  · obtain ⟨⟨s2, f2, e2⟩, hw, he⟩ := Option.map_eq_some_iff.1 h
                    cases he
                    exact word_er hw
              · cases h; decide
    · cases h; decide
theorem parse_er {l : List PX.S54} : ∀ {d : Nat} {xs : List ByteArray} {i : Nat} {s : St} {frs os : List ByteArray} {er at_ : Int}, parseL l d xs i s frs os = some (.inl (er, at_)) → 0 ≤ er ∧ er ≤ 100
  | 0, _, _, _, _, _, _, _, h => by cases h
  | d + 1, [], i, s, frs, os, er, at_, h => by cases h
  | d + 1, z :: rest, i, s, frs, os, er, at_, h => by
    rw [parseL_cons] at h
    split at h
    · cases h
    · split at h
      · obtain ⟨⟨s', f', n, e'⟩, hl, h2⟩ := Option.bind_eq_some_iff.1 h
        have h3 : (if e' = 0 then parseL l d ((z :: rest).drop n.toNat) (i + n.toNat) s' f' os else some (.inl (e', (i : Int)))) = some (.inl (er, at_)) := h2
        split at h3
        · exact parse_er h3
        · cases h3
          exact let_er hl
      · exact parse_er h
theorem parseF_sh {l : List PX.S54} {xs : List ByteArray} {r : PR} (h : parseF l xs = some r) : (0 ≤ r.2.2.2.2.2.2.2.2.1 ∧ r.2.2.2.2.2.2.2.2.1 ≤ 100) ∧ (r.2.2.2.2.2.2.2.2.1 = 0 ∨ r.2.2.2.2.2.2.2.1 = []) := by
  have fin0 : ∀ (s : St) (frs os : List ByteArray), fin s frs os = some r → (0 ≤ r.2.2.2.2.2.2.2.2.1 ∧ r.2.2.2.2.2.2.2.2.1 ≤ 100) ∧ (r.2.2.2.2.2.2.2.2.1 = 0 ∨ r.2.2.2.2.2.2.2.1 = []) := by
    intro s frs os h
    unfold fin at h
    split at h
    · cases h; exact ⟨⟨(by decide : (0 : Int) ≤ 0), (by decide : (0 : Int) ≤ 100)⟩, .inl rfl⟩
    · cases h
  unfold parseF at h
  split at h
  · cases h; exact ⟨⟨(by decide : (0 : Int) ≤ 3), (by decide : (3 : Int) ≤ 100)⟩, .inr rfl⟩
  · obtain ⟨q, hq, h2⟩ := Option.bind_eq_some_iff.1 h
    rcases q with ⟨er, at_⟩ | ⟨s, frs, os⟩
    · have h3 := parse_er hq
      cases h2
      exact ⟨h3, .inr rfl⟩
    · rcases frs with _ | ⟨f, fs⟩
      · rcases os with _ | ⟨o, os'⟩
        · cases h2; exact ⟨⟨(by decide : (0 : Int) ≤ 1), (by decide : (1 : Int) ≤ 100)⟩, .inr rfl⟩
        · exact fin0 _ _ _ h2
      · exact fin0 _ _ _ h2
theorem wrap_small (x : Int) (h0 : 0 ≤ x) (h1 : x < 9223372036854775808) : wrap64 x = x := by unfold wrap64; omega
theorem tells_ok (xs : List ByteArray) (l : List PX.S54) (hx : ∀ z ∈ xs, z.size ≤ 1048576) (hl : l.length ≤ 1048576) (hd : ∀ x ∈ l, x.f1.length ≤ 1048576) (k : Nat) (hk : 1000 < k) : PQ.redactorlaw19_tells.f k xs l = some true := by
  obtain ⟨r, hr, hf⟩ := parseF_ok 1048576 l hd (by decide) xs hx
  have hs := parseF_sh hr
  unfold PQ.redactorlaw19_tells.f
  have e2 : PX.redactorref19_Parse.f k xs l = some r := by
    unfold PX.redactorref19_Parse.f
    rw [if_pos ⟨fun z hz => by have := hx z hz; omega, by omega, fun x hz => by have := hd x hz; omega⟩]
    exact hr
  rw [parse_f k xs l (fun z hz => by have := hx z hz; omega) (by omega), hr, Option.bind_some, e2, Option.bind_some]
  have hlen : r.2.2.2.2.2.2.2.1.length ≤ 1000 := by
    rcases hs.2 with h0 | h0
    · obtain ⟨s, frs, os, rfl, _, _, h3, _, h5⟩ := hf.good h0
      show os.length ≤ 1000
      omega
    · rw [h0]; exact Nat.zero_le _
  rw [sameQJ k hk _ _ _ _ _ _ _ _ hlen, Option.bind_some, if_pos rfl]
  have hw : wrap64 r.2.2.2.2.2.2.2.2.1 = r.2.2.2.2.2.2.2.2.1 := wrap_small _ hs.1.1 (by have := hs.1.2; omega)
  rw [hw, if_pos rfl]
  simp
theorem rdOf_size (xs : List ByteArray) (hx : ∀ z ∈ xs, z.size ≤ 1048576) (j : Nat) : (rdOf ByteArray.empty xs (j : Int)).size ≤ 1048576 := by
  have e : rdOf ByteArray.empty xs (j : Int) = xs.getD j ByteArray.empty := by
    show xs.getD ((j : Int)).toNat _ = _
    rw [Int.toNat_natCast]
  rw [e, List.getD_eq_getElem?_getD]
  rcases Nat.lt_or_ge j xs.length with h | h
  · rw [List.getElem?_eq_getElem h]
    exact hx _ (List.getElem_mem h)
  · rw [List.getElem?_eq_none h]
    exact Nat.zero_le _
theorem filesL_small : PX.filesL.length ≤ 1048576 ∧ ∀ x ∈ PX.filesL, x.f1.length ≤ 1048576 := ⟨by decide, by
  intro x hx
  exact of_decide_eq_true (List.all_eq_true.1 (show PX.filesL.all (fun x => decide (x.f1.length ≤ 1048576)) = true by kernel_rfl) x hx)⟩
theorem parse_j1 (xs : List ByteArray) (l : List PX.S54) (c : List Int) (hx : ∀ z ∈ xs, z.size ≤ 1048576) (hl : l.length ≤ 1048576) (hd : ∀ x ∈ l, x.f1.length ≤ 1048576) (hc : ∀ x ∈ c, (Lit.int .u8 x).wf = true) (k : Nat) (hk : 1000 < k) (b : Bool) : PQ.redactorlaw19_OptsParse.j1 (k + 11 + 1) xs l c b = some true := by
  rw [PQ.redactorlaw19_OptsParse.j1]
  cases b
  · obtain ⟨args, ha, _, hsz⟩ := argsQ_ok c hc k
    rw [if_neg (by decide), tells_ok xs l hx hl hd _ (by omega), Option.bind_some, if_pos rfl]
    show ((some PX.filesL).bind _) = _
    rw [Option.bind_some, tells_ok xs PX.filesL hx filesL_small.1 filesL_small.2 _ (by omega), Option.bind_some, if_pos rfl, ha, Option.bind_some]
    show ((some PX.filesL).bind _) = _
    rw [Option.bind_some, tells_ok args PX.filesL (fun z hz => by have := hsz z hz; omega) filesL_small.1 filesL_small.2 _ (by omega), Option.bind_some]
  · rw [if_pos rfl, known_x, Option.bind_some]
theorem parse_l0 (xs : List ByteArray) (l : List PX.S54) (c : List Int) (hx : ∀ z ∈ xs, z.size ≤ 1048576) (hxl : xs.length ≤ 1048576) (hl : l.length ≤ 1048576) (hd : ∀ x ∈ l, x.f1.length ≤ 1048576) (hc : ∀ x ∈ c, (Lit.int .u8 x).wf = true) (k : Nat) (hk : 1000 < k) :
    ∀ (n j : Nat) (a : Int), n = xs.length - j → j ≤ xs.length → 0 ≤ a → a ≤ (j : Int) * 1048577 → PQ.redactorlaw19_OptsParse.l0 (k + 11 + 1 + 1 + n) xs l c a (j : Int) = some true := by
  intro n
  induction n with
  | zero =>
    intro j a h1 h2 h3 h4
    show PQ.redactorlaw19_OptsParse.l0 (k + 11 + 1 + 1) xs l c a (j : Int) = some true
    rw [PQ.redactorlaw19_OptsParse.l0, if_neg (by omega)]
    by_cases q : a > 300
    · rw [if_pos q]; exact parse_j1 xs l c hx hl hd hc k hk _
    · rw [if_neg q]
      by_cases q2 : (l.length : Int) > 20
      · rw [if_pos q2]; exact parse_j1 xs l c hx hl hd hc k hk _
      · rw [if_neg q2, known_x, Option.bind_some]; exact parse_j1 xs l c hx hl hd hc k hk _
  | succ n ih =>
    intro j a h1 h2 h3 h4
    show PQ.redactorlaw19_OptsParse.l0 ((k + 11 + 1 + 1 + n) + 1) xs l c a (j : Int) = some true
    rw [PQ.redactorlaw19_OptsParse.l0, if_pos (by omega), if_pos (by omega)]
    have hz := rdOf_size xs hx j
    generalize (rdOf ByteArray.empty xs (j : Int)).size = sz at hz ⊢
    have hjx : j < 1048576 := by omega
    have g1 : n = xs.length - (j + 1) := by omega
    have g2 : j + 1 ≤ xs.length := by omega
    rw [wrap_small (1 + (sz : Int)) (by omega) (by omega), wrap_small (a + (1 + (sz : Int))) (by omega) (by omega), wrap_small ((j : Int) + 1) (by omega) (by omega)]
    exact ih (j + 1) _ g1 g2 (by omega) (by omega)
theorem OptsParse (xs : List ByteArray) (l : List PX.S54) (c : List Int) (hx : ∀ z ∈ xs, z.size ≤ 1048576) (hxl : xs.length ≤ 1048576) (hl : l.length ≤ 1048576) (hd : ∀ x ∈ l, x.f1.length ≤ 1048576) (hc : ∀ x ∈ c, (Lit.int .u8 x).wf = true) : ∃ k, PQ.redactorlaw19_OptsParse.f k xs l c = some true :=
  by
  refine ⟨1001 + 11 + 1 + 1 + xs.length, ?_⟩
  unfold PQ.redactorlaw19_OptsParse.f
  exact parse_l0 xs l c hx hxl hl hd hc 1001 (by decide) xs.length 0 0 (Nat.sub_zero _).symm (Nat.zero_le _) (Int.le_refl 0) (show (0 : Int) ≤ ((0 : Nat) : Int) * 1048577 by omega)
#print axioms OptsParse
end Go.Proofs.YtceflmoiiiclcaaDoor.Pure
