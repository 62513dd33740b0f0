/- Plain facts of the plain function of opts.Parse: it always answers where sizes are small; what it answers is printed and read back. Conditions: sizes of arguments and of files' data. -/
import Derived.Test.YtceflmoiiiclcaaDoorPureKnown19
import Derived.Test.YtceflmoiiiclcaaDoorExtPrint
namespace Go.Proofs.YtceflmoiiiclcaaDoor.Par
open Go.RowKit Go.Proofs.YtceflmoiiiclcaaDoorW.PrintWords Go.Proofs.YtceflmoiiiclcaaDoorW.PrintLast Go.Proofs.YtceflmoiiiclcaaDoor.Utf
open EC
set_option linter.unusedVariables false
set_option linter.unusedSimpArgs false

/-- What holds of a reader whose error is none. -/
structure Ok (S : Nat) (s : St) (frs : List ByteArray) : Prop where
  lo : s.lo.size ≤ S
  en : s.en = 1 ∨ s.en = 2 ∨ s.en = 3
  ia : s.i = true → s.a = true
  fr : ∀ z ∈ frs, z.size ≤ S
theorem mem_snoc {S : Nat} {frs : List ByteArray} {t : ByteArray} (h : ∀ z ∈ frs, z.size ≤ S) (ht : t.size ≤ S) : ∀ z ∈ frs ++ [t], z.size ≤ S := by
  intro z hz
  rcases List.mem_append.1 hz with hz | hz
  · exact h z hz
  · rw [List.mem_singleton.1 hz]; exact ht
theorem nums_size (l : List Int) : (strOfNums l).size = l.length := by
  show (Array.size _) = _
  simp [strOfNums]
theorem trim_ok (a : ByteArray) (h : a.size < 4611686018427387904) : ∃ t, PS.strings_TrimSuffix.f a ⟨#[10]⟩ = some t ∧ t.size ≤ a.size := by
  unfold PS.strings_TrimSuffix.f PS.stringslite_TrimSuffix.f PS.stringslite_HasSuffix.f
  rw [show (⟨#[10]⟩ : ByteArray).size = 1 from rfl]
  by_cases c : (a.size : Int) ≥ ((1 : Nat) : Int)
  · have hw : wrap64 ((a.size : Int) - ((1 : Nat) : Int)) = ((a.size - 1 : Nat) : Int) := by unfold wrap64; omega
    rw [if_pos c, hw, if_pos (by omega), if_pos (by omega), Option.bind_some]
    split
    · rw [if_pos (by omega), if_pos (by omega)]
      exact ⟨_, rfl, by rw [ByteArray.size_extract]; omega⟩
    · exact ⟨a, rfl, Nat.le_refl _⟩
  · rw [if_neg c]
    exact ⟨a, rfl, Nat.le_refl _⟩
theorem named_en (t : ByteArray) (h : ¬ PX.named t = 0) : PX.named t = 1 ∨ PX.named t = 2 ∨ PX.named t = 3 := by
  unfold PX.named at h ⊢
  split
  · exact .inl rfl
  · split
    · exact .inr (.inl rfl)
    · split
      · exact .inr (.inr rfl)
      · rename_i h1 h2 h3
        rw [if_neg h1, if_neg h2, if_neg h3] at h
        exact absurd rfl h
theorem rd_len (S : Nat) (l : List PX.S54) (hl : ∀ x ∈ l, x.f1.length ≤ S) (i : Int) : (PX.rd_T54 l i).f1.length ≤ S := by
  unfold PX.rd_T54
  rw [List.getD_eq_getElem?_getD]
  rcases Nat.lt_or_ge i.toNat l.length with h | h
  · rw [List.getElem?_eq_getElem h]
    exact hl _ (List.getElem_mem h)
  · rw [List.getElem?_eq_none h]
    exact Nat.zero_le _
theorem word_ok (S : Nat) (l : List PX.S54) (hl : ∀ x ∈ l, x.f1.length ≤ S) (hS : S < 4611686018427387904) (k : Int) (hk : k = 101 ∨ k = 102 ∨ k = 99 ∨ k = 76) (t : ByteArray) (ht : t.size ≤ S) (s : St) (frs : List ByteArray) (h : Ok S s frs) :
    ∃ s' frs' er, wordF l k t s frs = some (s', frs', er) ∧ (er = 0 → Ok S s' frs') := by
  unfold wordF
  rcases hk with rfl | rfl | rfl | rfl
  · rw [if_pos rfl]
    exact ⟨_, _, _, rfl, fun _ => ⟨h.lo, h.en, h.ia, mem_snoc h.fr ht⟩⟩
  · rw [if_neg (by decide), if_pos rfl]
    by_cases c : findAt t l 0 < 0
    · rw [if_pos c]
      exact ⟨_, _, _, rfl, fun q => absurd q (by decide)⟩
    · rw [if_neg c]
      have hb := rd_len S l hl (findAt t l 0)
      obtain ⟨tr, e1, e2⟩ := trim_ok (strOfNums (PX.rd_T54 l (findAt t l 0)).f1) (by rw [nums_size]; omega)
      rw [nums_size] at e2
      rw [e1]
      exact ⟨_, _, _, rfl, fun _ => ⟨h.lo, h.en, h.ia, mem_snoc h.fr (by omega)⟩⟩
  · rw [if_neg (by decide), if_neg (by decide), if_pos rfl]
    refine ⟨_, _, _, rfl, fun q => ⟨h.lo, ?_, h.ia, h.fr⟩⟩
    by_cases c : PX.named t = 0
    · rw [if_pos c] at q
      cases q
    · exact named_en t c
  · rw [if_neg (by decide), if_neg (by decide), if_neg (by decide), if_pos rfl]
    exact ⟨_, _, _, rfl, fun _ => ⟨ht, h.en, h.ia, h.fr⟩⟩
theorem let_ok (S : Nat) (l : List PX.S54) (hl : ∀ x ∈ l, x.f1.length ≤ S) (hS : S < 4611686018427387904) (z : ByteArray) (hz : z.size ≤ S) (next : Option ByteArray) (hn : ∀ t, next = some t → t.size ≤ S) :
    ∀ (d k : Nat) (s : St) (frs : List ByteArray), z.size < k + d → k ≤ z.size → Ok S s frs → ∃ s' frs' n er, letF l z next d k s frs = some (s', frs', n, er) ∧ (er = 0 → Ok S s' frs')
  | 0, k, s, frs, h1, h2, h => by omega
  | d + 1, k, s, frs, h1, h2, h => by
    unfold letF
    by_cases c : k < z.size
    · rw [if_pos c]
      have ih := fun s' hs => let_ok S l hl hS z hz next hn d (k + 1) s' frs (by omega) (by omega) hs
      by_cases c1 : bt z k = 110
      · rw [if_pos c1]; exact ih _ ⟨h.lo, h.en, h.ia, h.fr⟩
      rw [if_neg c1]
      by_cases c2 : bt z k = 69
      · rw [if_pos c2]; exact ih _ ⟨h.lo, h.en, h.ia, h.fr⟩
      rw [if_neg c2]
      by_cases c3 : bt z k = 115
      · rw [if_pos c3]; exact ih _ ⟨h.lo, h.en, fun _ => rfl, h.fr⟩
      rw [if_neg c3]
      by_cases c4 : bt z k = 105
      · rw [if_pos c4]; exact ih _ ⟨h.lo, h.en, fun _ => rfl, h.fr⟩
      rw [if_neg c4]
      by_cases c5 : bt z k = 101 ∨ bt z k = 102 ∨ bt z k = 99 ∨ bt z k = 76
      · rw [if_pos c5]
        by_cases c6 : k + 1 < z.size
        · rw [if_pos c6]
          obtain ⟨s', frs', er, e1, e2⟩ := word_ok S l hl hS (bt z k) c5 (z.extract (k + 1) z.size) (by rw [ByteArray.size_extract]; omega) s frs h
          rw [e1]
          exact ⟨_, _, _, _, rfl, e2⟩
        · rw [if_neg c6]
          rcases next with _ | t
          · exact ⟨_, _, _, _, rfl, fun q => absurd q (by decide)⟩
          · obtain ⟨s', frs', er, e1, e2⟩ := word_ok S l hl hS (bt z k) c5 t (hn t rfl) s frs h
            show ∃ s' frs' n er, (wordF l (bt z k) t s frs).map _ = _ ∧ _
            rw [e1]
            exact ⟨_, _, _, _, rfl, e2⟩
      · rw [if_neg c5]
        exact ⟨_, _, _, _, rfl, fun q => absurd q (by decide)⟩
    · rw [if_neg c]
      exact ⟨_, _, _, _, rfl, fun _ => h⟩
theorem parseL_cons (l : List PX.S54) (d : Nat) (z : ByteArray) (rest : List ByteArray) (i : Nat) (s : St) (frs os : List ByteArray) : parseL l (d + 1) (z :: rest) i s frs os =
    if (z.toList == ([45, 45] : List UInt8)) = true then some (.inr (s, frs, os ++ rest))
    else if 1 < z.size ∧ bt z 0 = 45 then (letF l z rest.head? (z.size + 1) 1 s frs).bind fun r => if r.2.2.2 = 0 then parseL l d ((z :: rest).drop r.2.2.1.toNat) (i + r.2.2.1.toNat) r.1 r.2.1 os else some (.inl (r.2.2.2, (i : Int)))
    else parseL l d rest (i + 1) s frs (os ++ [z]) := rfl
/-- What parseL's answer satisfies. -/
structure POk (S : Nat) (m : Nat) (n : Nat) (r : Sum (Int × Int) (St × List ByteArray × List ByteArray)) : Prop where
  l : ∀ er at_, r = .inl (er, at_) → er ≠ 0 ∧ 0 ≤ at_ ∧ at_ ≤ (m : Int)
  r : ∀ s' frs' os', r = .inr (s', frs', os') → Ok S s' frs' ∧ (∀ z ∈ os', z.size ≤ S) ∧ frs'.length + os'.length ≤ n
theorem POk.mono {S m n m' n' : Nat} {r : Sum (Int × Int) (St × List ByteArray × List ByteArray)} (h : POk S m n r) (hm : m ≤ m') (hn : n ≤ n') : POk S m' n' r :=
  ⟨fun er at_ he => ⟨(h.l er at_ he).1, (h.l er at_ he).2.1, by have := (h.l er at_ he).2.2; omega⟩, fun s' f' o' he => ⟨(h.r s' f' o' he).1, (h.r s' f' o' he).2.1, Nat.le_trans (h.r s' f' o' he).2.2 hn⟩⟩
theorem parse_ok (S : Nat) (l : List PX.S54) (hl : ∀ x ∈ l, x.f1.length ≤ S) (hS : S < 4611686018427387904) :
    ∀ (d : Nat) (xs : List ByteArray) (i : Nat) (s : St) (frs os : List ByteArray), xs.length < d → (∀ z ∈ xs, z.size ≤ S) → Ok S s frs → (∀ z ∈ os, z.size ≤ S) → ∃ r, parseL l d xs i s frs os = some r ∧ POk S (i + xs.length) (frs.length + os.length + xs.length) r
  | 0, xs, i, s, frs, os, h1, _, _, _ => by omega
  | d + 1, [], i, s, frs, os, h1, hx, h, ho => ⟨_, rfl, ⟨fun _ _ he => (by cases he), fun s' f' o' he => by cases he; exact ⟨h, ho, by simp⟩⟩⟩
  | d + 1, z :: rest, i, s, frs, os, h1, hx, h, ho => by
    rw [parseL_cons]
    have hz := hx z List.mem_cons_self
    have hr : ∀ y ∈ rest, y.size ≤ S := fun y hy => hx y (List.mem_cons_of_mem _ hy)
    simp only [List.length_cons] at h1 ⊢
    by_cases c : (z.toList == ([45, 45] : List UInt8)) = true
    · rw [if_pos c]
      refine ⟨_, rfl, ⟨fun _ _ he => (by cases he), fun s' f' o' he => ?_⟩⟩
      cases he
      refine ⟨h, fun y hy => ?_, by rw [List.length_append]; omega⟩
      rcases List.mem_append.1 hy with hy | hy
      · exact ho y hy
      · exact hr y hy
    rw [if_neg c]
    by_cases c2 : 1 < z.size ∧ bt z 0 = 45
    · rw [if_pos c2]
      obtain ⟨s', frs', n, er, e1, e2⟩ := let_ok S l hl hS z hz rest.head? (fun t ht => by
        rcases rest with _ | ⟨y, r2⟩
        · cases ht
        · cases ht; exact hr _ List.mem_cons_self) (z.size + 1) 1 s frs (by omega) (by omega) h
      have hlen := letF_len e1
      rw [e1, Option.bind_some]
      by_cases c3 : er = 0
      · subst c3
        show ∃ r, (if (0 : Int) = 0 then _ else _) = some r ∧ _
        rw [if_pos rfl]
        have hok := e2 rfl
        rcases hlen.2.1 rfl with rfl | ⟨rfl, t, ht⟩
        · show ∃ r, parseL l d rest (i + 1) s' frs' os = some r ∧ _
          obtain ⟨r, r1, r2⟩ := parse_ok S l hl hS d rest (i + 1) s' frs' os (by omega) hr hok ho
          exact ⟨r, r1, r2.mono (by omega) (by omega)⟩
        · rcases rest with _ | ⟨y, r2⟩
          · cases ht
          · show ∃ r, parseL l d r2 (i + 2) s' frs' os = some r ∧ _
            simp only [List.length_cons] at h1 ⊢
            obtain ⟨r, r1, r3⟩ := parse_ok S l hl hS d r2 (i + 2) s' frs' os (by omega) (fun y hy => hr y (List.mem_cons_of_mem _ hy)) hok ho
            exact ⟨r, r1, r3.mono (by omega) (by omega)⟩
      · show ∃ r, (if er = 0 then _ else _) = some r ∧ _
        rw [if_neg c3]
        exact ⟨_, rfl, ⟨fun _ _ he => by cases he; exact ⟨c3, by omega, by omega⟩, fun _ _ _ he => (by cases he)⟩⟩
    · rw [if_neg c2]
      obtain ⟨r, r1, r2⟩ := parse_ok S l hl hS d rest (i + 1) s frs (os ++ [z]) (by omega) hr h (mem_snoc ho hz)
      exact ⟨r, r1, r2.mono (by omega) (by simp; omega)⟩
theorem join_le (S : Nat) : ∀ (xs : List (List UInt8)), (∀ z ∈ xs, z.length ≤ S) → (Lib.join xs [10]).length ≤ xs.length * (S + 1)
  | [], _ => by simp [Lib.join]
  | x :: r, h => by
    rw [Lib.join_cons]
    have h0 := h x List.mem_cons_self
    have key : ∀ (r : List (List UInt8)), (∀ z ∈ r, z.length ≤ S) → (Lib.joinTail [10] r).length ≤ r.length * (S + 1) := by
      intro r hr
      induction r with
      | nil => simp [Lib.joinTail]
      | cons y r ih =>
        have h1 := hr y List.mem_cons_self
        have h2 := ih (fun z hz => hr z (List.mem_cons_of_mem _ hz))
        simp [Lib.joinTail] at h2 ⊢
        rw [Nat.add_mul]
        omega
    have h3 := key r (fun z hz => h z (List.mem_cons_of_mem _ hz))
    rw [List.length_append, List.length_cons, Nat.add_mul]
    omega
theorem join_size (S : Nat) (frs : List ByteArray) (h : ∀ z ∈ frs, z.size ≤ S) : (Lib.join (frs.map (·.data.toList)) [10]).length ≤ frs.length * (S + 1) := by
  have h1 := join_le S (frs.map (·.data.toList)) (fun z hz => by
    obtain ⟨y, hy, rfl⟩ := List.mem_map.1 hz
    have := h y hy
    simpa using this)
  rwa [List.length_map] at h1
/-- What parseF's answer satisfies. -/
structure FOk (S : Nat) (xs : List ByteArray) (r : PR) : Prop where
  bad : ¬ r.2.2.2.2.2.2.2.2.1 = 0 → 0 ≤ r.2.2.2.2.2.2.2.2.2 ∧ r.2.2.2.2.2.2.2.2.2 ≤ (xs.length : Int)
  good : r.2.2.2.2.2.2.2.2.1 = 0 → ∃ s frs os, r = (s.q, s.x, s.a, s.i, joinS frs, s.en, s.lo, os, 0, 0) ∧ Ok S s frs ∧ (∀ z ∈ os, z.size ≤ S) ∧ os.length ≤ xs.length ∧ (joinS frs).size ≤ 140737488355328 ∧ xs.length ≤ 40
theorem joinS_size (frs : List ByteArray) : (joinS frs).size = (Lib.join (frs.map (·.data.toList)) [10]).length := by
  show Array.size _ = _
  simp [joinS]
theorem fin_ok (S : Nat) (xs : List ByteArray) (hxl : xs.length ≤ 40) (hS : 40 * (S + 1) ≤ 140737488355328) (s : St) (frs os : List ByteArray) (h : Ok S s frs) (ho : ∀ z ∈ os, z.size ≤ S) (hf : frs.length ≤ 40) (hn : os.length ≤ xs.length) : ∃ r, fin s frs os = some r ∧ FOk S xs r := by
  have h1 := join_size S frs h.fr
  have h2 : frs.length * (S + 1) ≤ 40 * (S + 1) := Nat.mul_le_mul_right _ hf
  unfold fin
  rw [if_pos (by omega)]
  exact ⟨_, rfl, ⟨fun q => absurd rfl q, fun _ => ⟨s, frs, os, rfl, h, ho, hn, by rw [joinS_size]; omega, hxl⟩⟩⟩
theorem parseF_ok (S : Nat) (l : List PX.S54) (hl : ∀ x ∈ l, x.f1.length ≤ S) (hS : 40 * (S + 1) ≤ 140737488355328) (xs : List ByteArray) (hx : ∀ z ∈ xs, z.size ≤ S) : ∃ r, parseF l xs = some r ∧ FOk S xs r := by
  unfold parseF
  by_cases c : 40 < xs.length
  · rw [if_pos c]
    exact ⟨_, rfl, ⟨fun _ => ⟨Int.le_refl 0, Int.natCast_nonneg _⟩, fun q => absurd q (by decide)⟩⟩
  · rw [if_neg c]
    have h0 : Ok S st0 [] := ⟨Nat.zero_le _, .inl rfl, fun q => (by cases q), fun _ hz => (by cases hz)⟩
    obtain ⟨r, r1, r2⟩ := parse_ok S l hl (by omega) (xs.length + 1) xs 0 st0 [] [] (by omega) hx h0 (fun _ hz => (by cases hz))
    rw [r1, Option.bind_some]
    rcases r with ⟨er, at_⟩ | ⟨s, frs, os⟩
    · have h1 := r2.l er at_ rfl
      exact ⟨_, rfl, ⟨fun _ => ⟨h1.2.1, by have := h1.2.2; rw [Nat.zero_add] at this; exact this⟩, fun q => absurd q h1.1⟩⟩
    · have h1 := r2.r s frs os rfl
      have hlen := h1.2.2
      simp only [List.length_nil, Nat.zero_add] at hlen
      rcases frs with _ | ⟨f, fs⟩
      · rcases os with _ | ⟨o, os'⟩
        · exact ⟨_, rfl, ⟨fun _ => ⟨Int.natCast_nonneg _, Int.le_refl _⟩, fun q => absurd (show (1 : Int) = 0 from q) (by decide)⟩⟩
        · simp only [List.length_cons, List.length_nil] at hlen
          exact fin_ok S xs (by omega) hS s [o] os' ⟨h1.1.lo, h1.1.en, h1.1.ia, fun z hz => h1.2.1 z (by rw [List.mem_singleton.1 hz]; exact List.mem_cons_self)⟩ (fun z hz => h1.2.1 z (List.mem_cons_of_mem _ hz)) (by simp) (by omega)
      · simp only [List.length_cons] at hlen
        exact fin_ok S xs (by omega) hS s (f :: fs) os h1.1 h1.2.1 (by simp only [List.length_cons]; omega) (by omega)
/-- What is printed is read back. -/
theorem joinS_one (sc : ByteArray) : joinS [sc] = sc := by
  unfold joinS
  rw [List.map_cons, List.map_nil, Lib.join_one]
theorem fin_one (s : St) (sc : ByteArray) (fl : List ByteArray) (h : sc.size ≤ 140737488355328) (m : Nat) : endF m (.inr (s, [sc], fl)) = some (s.q, s.x, s.a, s.i, sc, s.en, s.lo, fl, 0, 0) := by
  show fin s [sc] fl = _
  unfold fin
  rw [if_pos (by rw [List.map_cons, List.map_nil, Lib.join_one]; simpa using h), joinS_one]
theorem L_n (d : Nat) (rest : List ByteArray) (i : Nat) (s : St) (frs os : List ByteArray) : parseL [] (d + 1) ((⟨#[45, 110]⟩ : ByteArray) :: rest) i s frs os = parseL [] d rest (i + 1) { s with q := true } frs os := by
  rw [parseL_cons, if_neg (by decide +kernel), if_pos ⟨(show 1 < (2 : Nat) by decide), rfl⟩, show letF [] (⟨#[45, 110]⟩ : ByteArray) rest.head? (((⟨#[45, 110]⟩ : ByteArray)).size + 1) 1 s frs = some ({ s with q := true }, frs, 1, 0) from rfl, Option.bind_some]
  rfl
theorem L_E (d : Nat) (rest : List ByteArray) (i : Nat) (s : St) (frs os : List ByteArray) : parseL [] (d + 1) ((⟨#[45, 69]⟩ : ByteArray) :: rest) i s frs os = parseL [] d rest (i + 1) { s with x := true } frs os := by
  rw [parseL_cons, if_neg (by decide +kernel), if_pos ⟨(show 1 < (2 : Nat) by decide), rfl⟩, show letF [] (⟨#[45, 69]⟩ : ByteArray) rest.head? (((⟨#[45, 69]⟩ : ByteArray)).size + 1) 1 s frs = some ({ s with x := true }, frs, 1, 0) from rfl, Option.bind_some]
  rfl
theorem L_s (d : Nat) (rest : List ByteArray) (i : Nat) (s : St) (frs os : List ByteArray) : parseL [] (d + 1) ((⟨#[45, 115]⟩ : ByteArray) :: rest) i s frs os = parseL [] d rest (i + 1) { s with a := true } frs os := by
  rw [parseL_cons, if_neg (by decide +kernel), if_pos ⟨(show 1 < (2 : Nat) by decide), rfl⟩, show letF [] (⟨#[45, 115]⟩ : ByteArray) rest.head? (((⟨#[45, 115]⟩ : ByteArray)).size + 1) 1 s frs = some ({ s with a := true }, frs, 1, 0) from rfl, Option.bind_some]
  rfl
theorem L_i (d : Nat) (rest : List ByteArray) (i : Nat) (s : St) (frs os : List ByteArray) : parseL [] (d + 1) ((⟨#[45, 105]⟩ : ByteArray) :: rest) i s frs os = parseL [] d rest (i + 1) { s with a := true, i := true } frs os := by
  rw [parseL_cons, if_neg (by decide +kernel), if_pos ⟨(show 1 < (2 : Nat) by decide), rfl⟩, show letF [] (⟨#[45, 105]⟩ : ByteArray) rest.head? (((⟨#[45, 105]⟩ : ByteArray)).size + 1) 1 s frs = some ({ s with a := true, i := true }, frs, 1, 0) from rfl, Option.bind_some]
  rfl
theorem L_c2 (d : Nat) (rest : List ByteArray) (i : Nat) (s : St) (frs os : List ByteArray) : parseL [] (d + 1) ((⟨#[45, 99]⟩ : ByteArray) :: (⟨#[117, 116, 102, 45, 49, 54]⟩ : ByteArray) :: rest) i s frs os = parseL [] d rest (i + 2) { s with en := 2 } frs os := by
  have h : letF [] (⟨#[45, 99]⟩ : ByteArray) (some (⟨#[117, 116, 102, 45, 49, 54]⟩ : ByteArray)) 3 1 s frs = some ({ s with en := 2 }, frs, 2, 0) := by
    refine Eq.trans (b := (wordF [] 99 (⟨#[117, 116, 102, 45, 49, 54]⟩ : ByteArray) s frs).map fun r => (r.1, r.2.1, (2 : Int), r.2.2)) (by rfl) ?_
    unfold wordF
    rw [if_neg (by decide), if_neg (by decide), if_pos rfl, show PX.named (⟨#[117, 116, 102, 45, 49, 54]⟩ : ByteArray) = 2 from by kernel_rfl]
    rfl
  rw [parseL_cons, if_neg (by decide +kernel), if_pos ⟨(show 1 < (2 : Nat) by decide), rfl⟩]
  show ((letF [] (⟨#[45, 99]⟩ : ByteArray) (some (⟨#[117, 116, 102, 45, 49, 54]⟩ : ByteArray)) 3 1 s frs).bind _) = _
  rw [h, Option.bind_some]
  rfl
theorem L_c3 (d : Nat) (rest : List ByteArray) (i : Nat) (s : St) (frs os : List ByteArray) : parseL [] (d + 1) ((⟨#[45, 99]⟩ : ByteArray) :: (⟨#[108, 97, 116, 105, 110, 49]⟩ : ByteArray) :: rest) i s frs os = parseL [] d rest (i + 2) { s with en := 3 } frs os := by
  have h : letF [] (⟨#[45, 99]⟩ : ByteArray) (some (⟨#[108, 97, 116, 105, 110, 49]⟩ : ByteArray)) 3 1 s frs = some ({ s with en := 3 }, frs, 2, 0) := by
    refine Eq.trans (b := (wordF [] 99 (⟨#[108, 97, 116, 105, 110, 49]⟩ : ByteArray) s frs).map fun r => (r.1, r.2.1, (2 : Int), r.2.2)) (by rfl) ?_
    unfold wordF
    rw [if_neg (by decide), if_neg (by decide), if_pos rfl, show PX.named (⟨#[108, 97, 116, 105, 110, 49]⟩ : ByteArray) = 3 from by kernel_rfl]
    rfl
  rw [parseL_cons, if_neg (by decide +kernel), if_pos ⟨(show 1 < (2 : Nat) by decide), rfl⟩]
  show ((letF [] (⟨#[45, 99]⟩ : ByteArray) (some (⟨#[108, 97, 116, 105, 110, 49]⟩ : ByteArray)) 3 1 s frs).bind _) = _
  rw [h, Option.bind_some]
  rfl
theorem L_L (d : Nat) (lo : ByteArray) (rest : List ByteArray) (i : Nat) (s : St) (frs os : List ByteArray) : parseL [] (d + 1) ((⟨#[45, 76]⟩ : ByteArray) :: lo :: rest) i s frs os = parseL [] d rest (i + 2) { s with lo := lo } frs os := by
  have h : letF [] (⟨#[45, 76]⟩ : ByteArray) (some lo) 3 1 s frs = some ({ s with lo := lo }, frs, 2, 0) := by
    refine Eq.trans (b := (wordF [] 76 lo s frs).map fun r => (r.1, r.2.1, (2 : Int), r.2.2)) (by rfl) ?_
    unfold wordF
    rw [if_neg (by decide), if_neg (by decide), if_neg (by decide), if_pos rfl]
    rfl
  rw [parseL_cons, if_neg (by decide +kernel), if_pos ⟨(show 1 < (2 : Nat) by decide), rfl⟩]
  show ((letF [] (⟨#[45, 76]⟩ : ByteArray) (some lo) 3 1 s frs).bind _) = _
  rw [h, Option.bind_some]
  rfl
theorem L_e (d : Nat) (sc : ByteArray) (fl : List ByteArray) (i : Nat) (s : St) : parseL [] (d + 1 + 1) ((⟨#[45, 101]⟩ : ByteArray) :: sc :: (⟨#[45, 45]⟩ : ByteArray) :: fl) i s [] [] = some (.inr (s, [sc], fl)) := by
  rw [parseL_cons, if_neg (by decide +kernel), if_pos ⟨(show 1 < (2 : Nat) by decide), rfl⟩]
  show ((some (s, [sc], (2 : Int), (0 : Int))).bind _) = _
  rw [Option.bind_some]
  show parseL [] (d + 1) ((⟨#[45, 45]⟩ : ByteArray) :: fl) (i + 2) s [sc] [] = _
  rw [parseL_cons, if_pos (by decide +kernel), List.nil_append]
theorem empty_of (lo : ByteArray) (c : lo.toList = []) : lo = ⟨#[]⟩ := by
  rw [ByteArray.toList_eq] at c
  obtain ⟨d⟩ := lo
  congr 1
  exact Array.toList_inj.1 c
theorem back (q x a i : Bool) (sc : ByteArray) (en : Int) (lo : ByteArray) (fl : List ByteArray) (he : en = 1 ∨ en = 2 ∨ en = 3) (hi : i = true → a = true) (hf : fl.length ≤ 27) (hs : sc.size ≤ 140737488355328) :
    parseF [] (printF q x a i sc en lo fl) = some (q, x, a, i, sc, en, lo, fl, 0, 0) := by
  have hl : lo = ⟨#[]⟩ ∧ lo.toList.isEmpty = true ∨ lo.toList.isEmpty = false := by
    by_cases c : lo.toList = []
    · exact .inl ⟨empty_of lo c, by rw [c]; rfl⟩
    · exact .inr (by simpa using c)
  unfold parseF
  rw [if_neg (by
    unfold printF
    have h : ∀ (b : Bool) (l : List ByteArray), (if b = true then l else []).length ≤ l.length := by intro b l; cases b <;> simp
    simp only [List.length_append]
    have h1 := h q [(⟨#[45, 110]⟩ : ByteArray)]
    have h2 := h x [(⟨#[45, 69]⟩ : ByteArray)]
    have h3 := h (a && !i) [(⟨#[45, 115]⟩ : ByteArray)]
    have h4 := h i [(⟨#[45, 105]⟩ : ByteArray)]
    have h5 := h (en == 2) [(⟨#[45, 99]⟩ : ByteArray), (⟨#[117, 116, 102, 45, 49, 54]⟩ : ByteArray)]
    have h6 := h (en == 3) [(⟨#[45, 99]⟩ : ByteArray), (⟨#[108, 97, 116, 105, 110, 49]⟩ : ByteArray)]
    have h7 := h (!lo.toList.isEmpty) [(⟨#[45, 76]⟩ : ByteArray), lo]
    have h8 := h true [(⟨#[45, 101]⟩ : ByteArray), sc, (⟨#[45, 45]⟩ : ByteArray)]
    simp only [List.length_cons, List.length_nil] at *
    omega)]
  have e2 : ∀ (en : Int), (en = 1 ∨ en = 2 ∨ en = 3) → (en = 1 ∧ (en == 2) = false ∧ (en == 3) = false) ∨ (en = 2 ∧ (en == 2) = true ∧ (en == 3) = false) ∨ (en = 3 ∧ (en == 2) = false ∧ (en == 3) = true) := by
    intro en h
    rcases h with rfl | rfl | rfl <;> decide
  rcases hl with ⟨hl1, hl2⟩ | hl2 <;> rcases e2 en he with ⟨rfl, h2, h3⟩ | ⟨rfl, h2, h3⟩ | ⟨rfl, h2, h3⟩ <;> cases q <;> cases x <;> cases i <;> (first | (rw [hi rfl]) | cases a) <;> (
    try subst hl1
    simp only [printF, hl2, h2, h3, Bool.not_true, Bool.not_false, Bool.and_true, Bool.and_false, if_true, if_false, Bool.false_eq_true, List.nil_append, List.cons_append, List.append_nil, List.append_assoc, List.length_cons]
    repeat (first | rw [L_n] | rw [L_E] | rw [L_s] | rw [L_i] | rw [L_c2] | rw [L_c3] | rw [L_L])
    rw [L_e, Option.bind_some]
    exact fin_one _ sc fl hs _)
#print axioms back
#print axioms parseF_ok
end Go.Proofs.YtceflmoiiiclcaaDoor.Par
