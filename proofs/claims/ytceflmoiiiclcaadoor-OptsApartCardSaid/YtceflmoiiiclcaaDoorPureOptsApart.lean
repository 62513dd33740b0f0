/- OptsApart, the plain law: letters together are letters apart; what stands behind two strokes is never one. No conditions beyond the arguments' types. -/
import Derived.Test.YtceflmoiiiclcaaDoorPureKnown19
import Derived.Test.YtceflmoiiiclcaaDoorPA1
namespace Go.Proofs.YtceflmoiiiclcaaDoor.Pure
open Go.RowKit Go.Proofs.YtceflmoiiiclcaaDoorW.PrintWords Go.Proofs.YtceflmoiiiclcaaDoorW.PrintLast Go.Proofs.YtceflmoiiiclcaaDoor.Utf
open EC
set_option linter.unusedVariables false
set_option linter.unusedSimpArgs false

/-- A letter, by its number. -/
def ch (q : Nat) : UInt8 := if q = 0 then 110 else if q = 1 then 69 else if q = 2 then 115 else 105
def dash (q : Nat) : ByteArray := ⟨#[45, ch q]⟩
def setq (s : St) (q : Nat) : St := if q = 0 then { s with q := true } else if q = 1 then { s with x := true } else if q = 2 then { s with a := true } else { s with a := true, i := true }
theorem bt_list (L : List UInt8) (k : Nat) (c : UInt8) (h : L[k]? = some c) : bt ⟨L.toArray⟩ (k : Int) = (c.toNat : Int) := by
  unfold bt
  have hk : k < L.length := by
    rcases Nat.lt_or_ge k L.length with q | q
    · exact q
    · rw [List.getElem?_eq_none q] at h; cases h
  have hs : ((k : Int)).toNat < (ByteArray.mk L.toArray).size := by show k < L.toArray.size; simpa using hk
  rw [dif_pos hs]
  have e : (ByteArray.mk L.toArray)[((k : Int)).toNat]'hs = c := by
    show L.toArray[k]'(by simpa using hk) = c
    rw [List.getElem?_eq_getElem hk] at h
    simpa using h
  rw [e]
/-- Letters one behind the other, and 'e' behind them. -/
theorem letF_run (L : List UInt8) (p : ByteArray) : ∀ (qs : List Nat) (d k : Nat) (s : St) (frs : List ByteArray), (∀ q ∈ qs, q < 4) → L.drop k = qs.map ch ++ [101] →
    letF [] ⟨L.toArray⟩ (some p) (d + 1 + qs.length) k s frs = some (qs.foldl setq s, frs ++ [p], 2, 0) := by
  intro qs
  induction qs with
  | nil =>
    intro d k s frs _ hd
    have hk : k < L.length := by
      rcases Nat.lt_or_ge k L.length with q | q
      · exact q
      · rw [List.drop_eq_nil_of_le q] at hd; cases hd
    have hc : L[k]? = some 101 := by
      have h2 := congrArg (fun l : List UInt8 => l[0]?) hd
      simpa [List.getElem?_drop] using h2
    have hl : L.length = k + 1 := by
      have h2 := congrArg List.length hd
      simp at h2
      omega
    have hb := bt_list L k 101 hc
    have hsz : (ByteArray.mk L.toArray).size = L.length := by show L.toArray.size = _; simp
    show letF [] ⟨L.toArray⟩ (some p) (d + 1) k s frs = _
    unfold letF
    have hb2 : bt ⟨L.toArray⟩ (k : Int) = 101 := hb
    rw [if_pos (by rw [hsz]; exact hk), hb2, if_neg (by decide), if_neg (by decide), if_neg (by decide), if_neg (by decide), if_pos (by decide), if_neg (by rw [hsz]; omega)]
    show (wordF [] 101 p s frs).map _ = _
    unfold wordF
    rw [if_pos rfl]
    rfl
  | cons q qs ih =>
    intro d k s frs hq hd
    have hk : k < L.length := by
      rcases Nat.lt_or_ge k L.length with q | q
      · exact q
      · rw [List.drop_eq_nil_of_le q] at hd; cases hd
    have hc : L[k]? = some (ch q) := by
      have h2 := congrArg (fun l : List UInt8 => l[0]?) hd
      simpa [List.getElem?_drop] using h2
    have hd2 : L.drop (k + 1) = qs.map ch ++ [101] := by
      have h2 := congrArg (List.drop 1) hd
      rw [List.drop_drop] at h2
      exact h2
    have hb := bt_list L k (ch q) hc
    have hsz : (ByteArray.mk L.toArray).size = L.length := by show L.toArray.size = _; simp
    have hq4 := hq q List.mem_cons_self
    have hrec := fun s' => ih d (k + 1) s' frs (fun x hx => hq x (List.mem_cons_of_mem _ hx)) hd2
    show letF [] ⟨L.toArray⟩ (some p) ((d + 1 + qs.length) + 1) k s frs = some ((qs.foldl setq (setq s q)), frs ++ [p], 2, 0)
    unfold letF
    rw [if_pos (by rw [hsz]; exact hk), hb]
    rcases (show q = 0 ∨ q = 1 ∨ q = 2 ∨ q = 3 by omega) with rfl | rfl | rfl | rfl
    · rw [if_pos (by decide), hrec]; rfl
    · rw [if_neg (by decide), if_pos (by decide), hrec]; rfl
    · rw [if_neg (by decide), if_neg (by decide), if_pos (by decide), hrec]; rfl
    · rw [if_neg (by decide), if_neg (by decide), if_neg (by decide), if_pos (by decide), hrec]; rfl
/-- One letter alone. -/
theorem letF_one (q : Nat) (hq : q < 4) (next : Option ByteArray) (s : St) (frs : List ByteArray) : letF [] (dash q) next 3 1 s frs = some (setq s q, frs, 1, 0) := by
  rcases (show q = 0 ∨ q = 1 ∨ q = 2 ∨ q = 3 by omega) with rfl | rfl | rfl | rfl <;> rfl
theorem parseL_succ (l : List PX.S54) (d : Nat) (z : ByteArray) (rest : List ByteArray) (i : Nat) (s : St) (frs os : List ByteArray) : parseL l (d + 1) (z :: rest) i s frs os =
    if (z.toList == ([45, 45] : List UInt8)) = true then some (.inr (s, frs, os ++ rest))
    else if 1 < z.size ∧ bt z 0 = 45 then (letF l z rest.head? (z.size + 1) 1 s frs).bind fun r => if r.2.2.2 = 0 then parseL l d ((z :: rest).drop r.2.2.1.toNat) (i + r.2.2.1.toNat) r.1 r.2.1 os else some (.inl (r.2.2.2, (i : Int)))
    else parseL l d rest (i + 1) s frs (os ++ [z]) := rfl
theorem parse_flags (rest : List ByteArray) (frs os : List ByteArray) : ∀ (qs : List Nat) (d i : Nat) (s : St), (∀ q ∈ qs, q < 4) →
    parseL [] (d + qs.length) (qs.map dash ++ rest) i s frs os = parseL [] d rest (i + qs.length) (qs.foldl setq s) frs os := by
  intro qs
  induction qs with
  | nil => intro d i s _; rfl
  | cons q qs ih =>
    intro d i s hq
    have hq4 := hq q List.mem_cons_self
    show parseL [] ((d + qs.length) + 1) (dash q :: (qs.map dash ++ rest)) i s frs os = _
    rw [parseL_succ]
    have h1 : ((dash q).toList == ([45, 45] : List UInt8)) = false := by rcases (show q = 0 ∨ q = 1 ∨ q = 2 ∨ q = 3 by omega) with rfl | rfl | rfl | rfl <;> decide +kernel
    have h2 : 1 < (dash q).size ∧ bt (dash q) 0 = 45 := ⟨(show 1 < (2 : Nat) by decide), rfl⟩
    rw [if_neg (by rw [h1]; decide), if_pos h2]
    have h3 : (dash q).size + 1 = 3 := rfl
    rw [h3, letF_one q hq4, Option.bind_some]
    show (if (0 : Int) = 0 then parseL [] (d + qs.length) ((dash q :: (qs.map dash ++ rest)).drop 1) (i + 1) (setq s q) frs os else _) = _
    rw [if_pos rfl]
    show parseL [] (d + qs.length) (qs.map dash ++ rest) (i + 1) (setq s q) frs os = _
    rw [ih d (i + 1) (setq s q) (fun x hx => hq x (List.mem_cons_of_mem _ hx))]
    rw [show i + 1 + qs.length = i + (q :: qs).length by simp; omega]
    rfl
def jobOf (s : St) (t : ByteArray) : PR := (s.q, s.x, s.a, s.i, joinS [⟨#[112]⟩], s.en, s.lo, [t, ⟨#[45, 110]⟩], 0, 0)
theorem fin_p (s : St) (t : ByteArray) : endF 0 (.inr (s, [⟨#[112]⟩], [t, ⟨#[45, 110]⟩])) = some (jobOf s t) := by
  show fin s [⟨#[112]⟩] [t, ⟨#[45, 110]⟩] = _
  unfold fin
  rw [if_pos (by decide)]
  rfl
theorem endF_m (m : Nat) (s : St) (t : ByteArray) : endF m (.inr (s, [⟨#[112]⟩], [t, ⟨#[45, 110]⟩])) = some (jobOf s t) := fin_p s t
theorem apart_a (qs : List Nat) (hq : ∀ q ∈ qs, q < 4) (hl : qs.length ≤ 8) (t : ByteArray) : parseF [] (([(⟨#[45, 101]⟩ : ByteArray), (⟨#[112]⟩ : ByteArray)] ++ qs.map dash) ++ [(⟨#[45, 45]⟩ : ByteArray), t, (⟨#[45, 110]⟩ : ByteArray)]) = some (jobOf (qs.foldl setq st0) t) := by
  have hlen : (([(⟨#[45, 101]⟩ : ByteArray), (⟨#[112]⟩ : ByteArray)] ++ qs.map dash) ++ [(⟨#[45, 45]⟩ : ByteArray), t, ⟨#[45, 110]⟩]).length = qs.length + 5 := by simp
  unfold parseF
  rw [if_neg (by rw [hlen]; omega), hlen]
  show (parseL [] ((qs.length + 5) + 1) ((⟨#[45, 101]⟩ : ByteArray) :: (⟨#[112]⟩ : ByteArray) :: (qs.map dash ++ [⟨#[45, 45]⟩, t, ⟨#[45, 110]⟩])) 0 st0 [] []).bind _ = _
  rw [parseL_succ]
  rw [if_neg (by decide +kernel), if_pos ⟨(show 1 < (2 : Nat) by decide), rfl⟩]
  show (((some (st0, ([⟨#[112]⟩] : List ByteArray), (2 : Int), (0 : Int))).bind fun r => if r.2.2.2 = 0 then parseL [] (qs.length + 5) (((⟨#[45, 101]⟩ : ByteArray) :: (⟨#[112]⟩ : ByteArray) :: (qs.map dash ++ [⟨#[45, 45]⟩, t, ⟨#[45, 110]⟩])).drop r.2.2.1.toNat) (0 + r.2.2.1.toNat) r.1 r.2.1 [] else some (.inl (r.2.2.2, ((0 : Nat) : Int)))).bind _) = _
  rw [Option.bind_some, if_pos rfl]
  show (parseL [] (qs.length + 5) (qs.map dash ++ [⟨#[45, 45]⟩, t, ⟨#[45, 110]⟩]) 2 st0 [⟨#[112]⟩] []).bind _ = _
  rw [show qs.length + 5 = 5 + qs.length by omega, parse_flags _ _ _ qs 5 2 st0 hq]
  rw [parseL_succ]
  rw [if_pos (by decide +kernel), Option.bind_some]
  exact endF_m _ _ _
theorem apart_b (qs : List Nat) (hq : ∀ q ∈ qs, q < 4) (t : ByteArray) : parseF [] [⟨(45 :: (qs.map ch ++ [101])).toArray⟩, ⟨#[112]⟩, ⟨#[45, 45]⟩, t, ⟨#[45, 110]⟩] = some (jobOf (qs.foldl setq st0) t) := by
  have hsz : (ByteArray.mk (45 :: (qs.map ch ++ [101])).toArray).size = qs.length + 2 := by show (45 :: (qs.map ch ++ [101])).toArray.size = _; simp
  have hb0 : bt (ByteArray.mk (45 :: (qs.map ch ++ [101])).toArray) 0 = 45 := bt_list (45 :: (qs.map ch ++ [101])) 0 45 rfl
  have hne : ((ByteArray.mk (45 :: (qs.map ch ++ [101])).toArray).toList == ([45, 45] : List UInt8)) = false := by
    rw [ByteArray.toList_eq, beq_eq_false_iff_ne]
    intro e
    have h2 : (45 :: (qs.map ch ++ [101]) : List UInt8) = [45, 45] := by simpa using e
    rcases qs with _ | ⟨q0, qs0⟩
    · simp at h2
    · simp at h2
  unfold parseF
  rw [if_neg (by simp)]
  show (parseL [] (5 + 1) _ 0 st0 [] []).bind _ = _
  rw [parseL_succ]
  rw [if_neg (by rw [hne]; decide), if_pos ⟨by rw [hsz]; omega, hb0⟩, hsz]
  have hr := letF_run (45 :: (qs.map ch ++ [101])) ⟨#[112]⟩ qs 2 1 st0 [] hq rfl
  rw [show qs.length + 2 + 1 = 2 + 1 + qs.length by omega]
  show (((letF [] _ (some ⟨#[112]⟩) (2 + 1 + qs.length) 1 st0 []).bind _).bind _) = _
  rw [hr, Option.bind_some]
  show ((if (0 : Int) = 0 then parseL [] 5 [⟨#[45, 45]⟩, t, ⟨#[45, 110]⟩] 2 (qs.foldl setq st0) [⟨#[112]⟩] [] else _).bind _) = _
  rw [if_pos rfl]
  rw [parseL_succ]
  rw [if_pos (by decide +kernel), Option.bind_some]
  exact endF_m _ _ _
def X5 (qs : List Nat) : List ByteArray := [(⟨#[45, 101]⟩ : ByteArray), (⟨#[112]⟩ : ByteArray)] ++ qs.map dash
def X6 (qs : List Nat) : ByteArray := ⟨(45 :: qs.map ch).toArray⟩
theorem X6_size (qs : List Nat) : (X6 qs).size = qs.length + 1 := by show (45 :: qs.map ch).toArray.size = _; simp
theorem ba_app (L M : List UInt8) : (ByteArray.mk L.toArray) ++ (ByteArray.mk M.toArray) = ByteArray.mk (L ++ M).toArray := by
  apply ByteArray.ext
  rw [ByteArray.data_append]
  simp
theorem X6_app (qs : List Nat) (q : Nat) : X6 qs ++ (⟨#[ch q]⟩ : ByteArray) = X6 (qs ++ [q]) := by
  unfold X6
  have := ba_app (45 :: qs.map ch) [ch q]
  rw [show (⟨#[ch q]⟩ : ByteArray) = ByteArray.mk [ch q].toArray from rfl, this]
  simp
theorem X6_e (qs : List Nat) : X6 qs ++ (⟨#[101]⟩ : ByteArray) = ⟨(45 :: (qs.map ch ++ [101])).toArray⟩ := by
  unfold X6
  have := ba_app (45 :: qs.map ch) [101]
  rw [show (⟨#[101]⟩ : ByteArray) = ByteArray.mk [101].toArray from rfl, this]
  simp
theorem ext_q (q : Nat) (hq : q < 4) : (⟨#[110, 69, 115, 105]⟩ : ByteArray).extract q (q + 1) = ⟨#[ch q]⟩ := by
  rcases (show q = 0 ∨ q = 1 ∨ q = 2 ∨ q = 3 by omega) with rfl | rfl | rfl | rfl <;> kernel_rfl
theorem dash_app (q : Nat) : (⟨#[45]⟩ : ByteArray) ++ (⟨#[ch q]⟩ : ByteArray) = dash q := ba_app [45] [ch q]
theorem wf_u8b {l : List Int} (h : ∀ x ∈ l, (Lit.int .u8 x).wf = true) : ∀ x ∈ l, 0 ≤ x ∧ x < 256 := fun x hx => wf_u8 (h x hx)
theorem rd_u8 {l : List Int} (h : ∀ x ∈ l, 0 ≤ x ∧ x < 256) (i : Int) : 0 ≤ rd l i ∧ rd l i < 256 := by
  unfold rd
  rw [List.getD_eq_getElem?_getD]
  by_cases hi : i.toNat < l.length
  · rw [List.getElem?_eq_getElem hi]; exact h _ (List.getElem_mem hi)
  · rw [List.getElem?_eq_none (by omega)]; simp
theorem apart_l0 (l : List Int) (hl : ∀ x ∈ l, 0 ≤ x ∧ x < 256) (hs : l.length < 140737488355328) (t : ByteArray) : ∀ (d i : Nat) (qs : List Nat), i + d = min l.length 8 → (∀ q ∈ qs, q < 4) → qs.length = i →
    ∃ qs' : List Nat, (∀ q ∈ qs', q < 4) ∧ qs'.length ≤ 8 ∧ ∀ k, PA.redactorlaw19_OptsApart.l0 (k + 1 + d) l t (X5 qs) (X6 qs) (i : Int) = PA.redactorlaw19_OptsApart.j1 k t (X5 qs') (X6 qs') := by
  intro d
  induction d with
  | zero =>
    intro i qs hi hq hi2
    refine ⟨qs, hq, by omega, fun k => ?_⟩
    simp only [Nat.add_zero, PA.redactorlaw19_OptsApart.l0]
    by_cases h : (i : Int) < (l.length : Int)
    · rw [if_pos h, if_neg (by omega)]
    · rw [if_neg h]
  | succ d ih =>
    intro i qs hi hq hi2
    have hb := rd_u8 hl (i : Int)
    obtain ⟨q, hqe⟩ : ∃ q : Nat, (q : Int) = Int.tmod (rd l (i : Int)) 4 := ⟨(Int.tmod (rd l (i : Int)) 4).toNat, by rw [Int.tmod_eq_emod_of_nonneg hb.1]; omega⟩
    have hq4 : q < 4 := by rw [Int.tmod_eq_emod_of_nonneg hb.1] at hqe; omega
    obtain ⟨qs', h1, h2, h⟩ := ih (i + 1) (qs ++ [q]) (by omega) (fun x hx => (List.mem_append.1 hx).elim (hq x) (fun y => by rw [List.mem_singleton.1 y]; exact hq4)) (by rw [List.length_append]; simp; omega)
    refine ⟨qs', h1, h2, fun k => ?_⟩
    have hk := h k
    have ew : wrap64 ((i : Int) + 1) = ((i + 1 : Nat) : Int) := by unfold wrap64; omega
    have e1 : (((q : Int) + 1) % 256) = ((q + 1 : Nat) : Int) := by omega
    have e2 : (X5 qs) ++ [(⟨#[45]⟩ : ByteArray) ++ (⟨#[ch q]⟩ : ByteArray)] = X5 (qs ++ [q]) := by rw [dash_app]; unfold X5; simp
    have e3 : ((⟨#[ch q]⟩ : ByteArray)).size = 1 := rfl
    have e4 : (X5 qs).length = qs.length + 2 := by unfold X5; simp
    show PA.redactorlaw19_OptsApart.l0 ((k + 1 + d) + 1) l t (X5 qs) (X6 qs) (i : Int) = _
    simp only [PA.redactorlaw19_OptsApart.l0]
    rw [← hqe, e1, Int.toNat_natCast, Int.toNat_natCast, ext_q q hq4, ew, e2, X6_app, e3, X6_size, e4]
    clear ih h hqe hb
    rw [if_pos (by omega), if_pos (by omega), if_pos (by omega), if_pos (by omega), if_pos (by omega), if_pos (by omega), if_pos (by omega), if_pos (by omega), if_pos (by omega)]
    exact hk
theorem same_job (k : Nat) (hk : 3 < k) (s : St) (t : ByteArray) : PA.redactorref19_Same.f k (jobOf s t).1 (jobOf s t).2.1 (jobOf s t).2.2.1 (jobOf s t).2.2.2.1 (jobOf s t).2.2.2.2.1 (jobOf s t).2.2.2.2.2.1 (jobOf s t).2.2.2.2.2.2.1 (jobOf s t).2.2.2.2.2.2.2.1 (jobOf s t).1 (jobOf s t).2.1 (jobOf s t).2.2.1 (jobOf s t).2.2.2.1 (jobOf s t).2.2.2.2.1 (jobOf s t).2.2.2.2.2.1 (jobOf s t).2.2.2.2.2.2.1 (jobOf s t).2.2.2.2.2.2.2.1 = some true := by
  obtain ⟨k, rfl⟩ : ∃ m, k = m + 1 + 1 + 1 := ⟨k - 3, by omega⟩
  unfold PA.redactorref19_Same.f
  rw [if_pos (beq_self_eq_true _), if_pos (beq_self_eq_true _), if_pos (beq_self_eq_true _), if_pos (beq_self_eq_true _), if_pos rfl, if_pos rfl, if_pos rfl]
  show (PA.redactorref19_SameTexts.f (k + 1 + 1 + 1) [t, ⟨#[45, 110]⟩] [t, ⟨#[45, 110]⟩]).bind _ = _
  unfold PA.redactorref19_SameTexts.f
  rw [if_pos rfl]
  have e : PA.redactorref19_SameTexts.l0 (k + 1 + 1 + 1) [t, ⟨#[45, 110]⟩] [t, ⟨#[45, 110]⟩] 0 = some true := by
    have w1 : wrap64 (0 + 1) = 1 := by unfold wrap64; omega
    have w2 : wrap64 (1 + 1) = 2 := by unfold wrap64; omega
    have hL : ((([t, ⟨#[45, 110]⟩] : List ByteArray).length : Nat) : Int) = 2 := rfl
    simp only [PA.redactorref19_SameTexts.l0, w1, w2, hL]
    rw [if_pos (by decide), if_pos (by decide), if_pos (by decide), if_pos trivial, if_pos (by decide), if_pos (by decide), if_pos (by decide), if_pos trivial, if_neg (by decide)]
  rw [e]
  rfl
theorem apart_j1 (k : Nat) (hk : 3 < k) (qs : List Nat) (hq : ∀ q ∈ qs, q < 4) (hl : qs.length ≤ 8) (t : ByteArray) (ht : t.size ≤ 50) : PA.redactorlaw19_OptsApart.j1 (k + 1) t (X5 qs) (X6 qs) = some true := by
  have h5 : (X5 qs).length = qs.length + 2 := by unfold X5; simp
  have hs1 : ∀ z ∈ X5 qs ++ [(⟨#[45, 45]⟩ : ByteArray), t, (⟨#[45, 110]⟩ : ByteArray)], z.size < 4611686018427387904 := by
    intro z hz
    unfold X5 at hz
    simp only [List.mem_append, List.mem_cons, List.not_mem_nil, or_false, List.mem_map] at hz
    rcases hz with ((rfl | rfl) | ⟨q, _, rfl⟩) | rfl | rfl | rfl
    · decide
    · decide
    · exact (by decide : (2 : Nat) < 4611686018427387904)
    · decide
    · omega
    · decide
  have hs2 : ∀ z ∈ [(⟨(45 :: (qs.map ch ++ [101])).toArray⟩ : ByteArray), (⟨#[112]⟩ : ByteArray), (⟨#[45, 45]⟩ : ByteArray), t, (⟨#[45, 110]⟩ : ByteArray)], z.size < 4611686018427387904 := by
    intro z hz
    simp only [List.mem_cons, List.not_mem_nil, or_false] at hz
    rcases hz with rfl | rfl | rfl | rfl | rfl
    · show (45 :: (qs.map ch ++ [101])).toArray.size < _
      simp
      omega
    · decide
    · decide
    · omega
    · decide
  simp only [PA.redactorlaw19_OptsApart.j1, Option.bind_some]
  rw [if_pos (by rw [h5]; simp only [List.length_cons, List.length_nil]; omega), if_pos (by rw [X6_size]; omega), parse_f _ _ _ hs1 (by decide), X6_e, parse_f _ _ _ hs2 (by decide)]
  have ea := apart_a qs hq hl t
  have eb := apart_b qs hq t
  unfold X5
  rw [ea, Option.bind_some, eb, Option.bind_some, same_job k hk, Option.bind_some, known_x, Option.bind_some, if_pos rfl]
  show (if (0 : Int) = 0 then (if (0 : Int) = 0 then (if true = true then (if ((([t, ⟨#[45, 110]⟩] : List ByteArray).length : Nat) : Int) = 2 then (if (0 : Int) < ((([t, ⟨#[45, 110]⟩] : List ByteArray).length : Nat) : Int) then (if t.toList = t.toList then (if (1 : Int) < ((([t, ⟨#[45, 110]⟩] : List ByteArray).length : Nat) : Int) then (some (((⟨#[45, 110]⟩ : ByteArray)).toList == ([45, 110] : List UInt8))) else none) else some false) else none) else some false) else some false) else some false) else some false) = some true
  have hL : ((([t, ⟨#[45, 110]⟩] : List ByteArray).length : Nat) : Int) = 2 := rfl
  rw [hL, if_pos rfl, if_pos rfl, if_pos rfl, if_pos rfl, if_pos (by decide), if_pos rfl, if_pos (by decide)]
  exact congrArg some (by kernel_rfl)
theorem OptsApart : PA.redactorlaw19_OptsApart.Pure := by
  intro l t hl1 hl2 hl ht
  have hB := wf_u8b hl
  obtain ⟨qs, h1, h2, h⟩ := apart_l0 l hB (by omega) t (min l.length 8) 0 [] (by omega) (fun q hq => by cases hq) rfl
  refine ⟨10 + 1 + 1 + min l.length 8, ?_⟩
  unfold PA.redactorlaw19_OptsApart.f
  by_cases h50 : (t.size : Int) > 50
  · rw [if_pos h50, known_x, Option.bind_some]
  · rw [if_neg h50]
    have h3 := h (10 + 1)
    have h4 : PA.redactorlaw19_OptsApart.l0 (10 + 1 + 1 + min l.length 8) l t ([(⟨#[45, 101]⟩ : ByteArray), (⟨#[112]⟩ : ByteArray)]) (⟨#[45]⟩ : ByteArray) 0 = PA.redactorlaw19_OptsApart.j1 (10 + 1) t (X5 qs) (X6 qs) := h3
    rw [h4]
    exact apart_j1 10 (by decide) qs h1 h2 t (by omega)
#print axioms OptsApart
end Go.Proofs.YtceflmoiiiclcaaDoor.Pure
