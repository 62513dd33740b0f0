/- What the printed functions of the document's answer come to: its Decode is 'dec8', its Encode is 'enc' where every cell is right, Same asks whether two lists are one. Conditions: bytes are bytes, lists are shorter than Go's bound. -/
import Derived.Test.YtopkhidncfcjlaaDoorPureUtfK
import Derived.Test.YtopkhidncfcjlaaDoorPX3
import Derived.Test.YtopkhidncfcjlaaDoorPX4
namespace Go.Proofs.YtopkhidncfcjlaaDoor.Utf
open Go.RowKit Go.Proofs.YtopkhidncfcjlaaDoorW.PrintWords Go.Proofs.YtopkhidncfcjlaaDoorW.PrintLast Go.Proofs.YtopkhidncfcjlaaDoorW.PrintMore
set_option linter.unusedVariables false

/-! ### Same -/
theorem compare_l0 (a b : List Int) (ha : a.length < 140737488355328) : ∀ (d k i : Nat), i + d = a.length → i ≤ b.length → 2 * d + 1 < k →
    ∃ r, PX.redactorref01_Compare.l0 k a b (i : Int) = some r ∧ (r = 0 ↔ a.drop i = b.drop i) := by
  intro d
  induction d with
  | zero =>
    intro k i hi hb hk
    obtain ⟨k, rfl⟩ : ∃ m, k = m + 2 := ⟨k - 2, by omega⟩
    have e : PX.redactorref01_Compare.l0 (k + 2) a b (i : Int) = if (a.length : Int) < (b.length : Int) then some (-1) else if (a.length : Int) > (b.length : Int) then some 1 else some 0 := by
      simp only [PX.redactorref01_Compare.l0]
      rw [if_neg (by omega)]
      simp only [PX.redactorref01_Compare.j1]
      rw [if_neg (by simp)]
    rw [e, List.drop_eq_nil_of_le (show a.length ≤ i by omega)]
    by_cases h : (a.length : Int) < (b.length : Int)
    · rw [if_pos h]
      refine ⟨_, rfl, by omega, fun x => ?_⟩
      have := congrArg List.length x
      rw [List.length_drop] at this
      simp at this
      omega
    · rw [if_neg h, if_neg (by omega)]
      exact ⟨_, rfl, fun _ => (List.drop_eq_nil_of_le (by omega)).symm, fun _ => rfl⟩
  | succ d ih =>
    intro k i hi hb hk
    obtain ⟨k, rfl⟩ : ∃ m, k = m + 2 := ⟨k - 2, by omega⟩
    by_cases hlt : i < b.length
    · have ew : wrap64 ((i : Int) + 1) = ((i + 1 : Nat) : Int) := by rw [w64 (by omega) (by omega)]; omega
      have e : PX.redactorref01_Compare.l0 (k + 2) a b (i : Int) = if rd a (i : Int) < rd b (i : Int) then some (-1) else if rd a (i : Int) > rd b (i : Int) then some 1 else PX.redactorref01_Compare.l0 k a b ((i + 1 : Nat) : Int) := by
        simp only [PX.redactorref01_Compare.l0]
        rw [if_pos (by omega), decide_eq_true (by omega)]
        simp only [PX.redactorref01_Compare.j1]
        rw [if_pos trivial, if_pos (by omega), if_pos (by omega), if_pos (by omega), ew]
      have hd := drops_eq (a := a) (b := b) i (by omega) hlt
      rw [e]
      by_cases h1 : rd a (i : Int) < rd b (i : Int)
      · rw [if_pos h1]
        exact ⟨_, rfl, by omega, fun x => by have := (hd.1 x).1; omega⟩
      · rw [if_neg h1]
        by_cases h2 : rd a (i : Int) > rd b (i : Int)
        · rw [if_pos h2]
          exact ⟨_, rfl, by omega, fun x => by have := (hd.1 x).1; omega⟩
        · rw [if_neg h2]
          obtain ⟨r, hr, hq⟩ := ih k (i + 1) (by omega) (by omega) (by omega)
          exact ⟨r, hr, hq.trans ⟨fun x => hd.2 ⟨by omega, x⟩, fun x => (hd.1 x).2⟩⟩
    · have e : PX.redactorref01_Compare.l0 (k + 2) a b (i : Int) = if (a.length : Int) < (b.length : Int) then some (-1) else if (a.length : Int) > (b.length : Int) then some 1 else some 0 := by
        simp only [PX.redactorref01_Compare.l0]
        rw [if_pos (by omega), decide_eq_false (by omega)]
        simp only [PX.redactorref01_Compare.j1]
        rw [if_neg (by simp)]
      rw [e, if_neg (by omega), if_pos (by omega)]
      refine ⟨_, rfl, by omega, fun x => ?_⟩
      have := congrArg List.length x
      rw [List.length_drop, List.length_drop] at this
      omega
theorem same_f (k : Nat) (a b : List Int) (hk : 2 * a.length + 1 < k) (ha : a.length < 140737488355328) : PX.redactorref01_Same.f k a b = some (decide (a = b)) := by
  obtain ⟨r, hr, hq⟩ := compare_l0 a b ha a.length k 0 (by omega) (by omega) hk
  unfold PX.redactorref01_Same.f PX.redactorref01_Compare.f
  rw [show ((0 : Nat) : Int) = 0 from rfl] at hr
  rw [hr, Option.bind_some]
  congr 1
  rw [List.drop_zero, List.drop_zero] at hq
  by_cases h : a = b
  · rw [decide_eq_true h, hq.2 h]; rfl
  · rw [decide_eq_false h]
    exact beq_eq_false_iff_ne.2 (fun e => h (hq.1 e))

/-! ### Bytes as a string -/
theorem bt_f {l : List Int} (h : Bytes l) (i : Int) : bt (strOfNums l) i = rd l i := by
  unfold bt
  by_cases hi : i.toNat < (strOfNums l).size
  · rw [dif_pos hi]
    have hi2 : i.toNat < l.length := by rw [strOfNums_size] at hi; exact hi
    have e : (strOfNums l)[i.toNat]'hi = UInt8.ofNat (l[i.toNat]).toNat := by
      show ((l.map fun n => UInt8.ofNat n.toNat).toArray)[i.toNat]'(by simpa using hi2) = _
      simp
    have hx := h l[i.toNat] (List.getElem_mem hi2)
    rw [e, UInt8.toNat_ofNat']
    unfold rd
    rw [List.getD_eq_getElem?_getD, List.getElem?_eq_getElem hi2]
    simp only [Option.getD_some]
    omega
  · rw [dif_neg hi]
    unfold rd
    rw [strOfNums_size] at hi
    rw [List.getD_eq_getElem?_getD, List.getElem?_eq_none (by omega)]
    rfl
theorem extract_f (l : List Int) (i : Nat) : (strOfNums l).extract i (strOfNums l).size = strOfNums (l.drop i) := by
  apply ByteArray.ext
  apply Array.toList_inj.1
  rw [ByteArray.data_extract, Array.toList_extract, strOfNums_data, strOfNums_data, strOfNums_size]
  simp [List.map_drop]
  rw [List.take_of_length_le (by simp)]
theorem toList_nil (l : List Int) : (strOfNums l).toList = ([] : List UInt8) ↔ l = [] := by
  rw [ByteArray.toList_eq, strOfNums_data]
  simp

/-! ### First -/
theorem ref_right_f (c : Int) : PX.redactorref01_Right.f c = some (decide (Right c)) := by
  unfold PX.redactorref01_Right.f
  by_cases h1 : c ≥ -256
  · rw [if_pos h1]
    by_cases h2 : c < 55296
    · rw [if_pos h2, decide_eq_true (show Right c by unfold Right; omega)]
    · rw [if_neg h2]
      by_cases h3 : c > 57343
      · rw [if_pos h3]
        congr 1
        rw [decide_eq_decide]
        unfold Right
        omega
      · rw [if_neg h3, decide_eq_false (show ¬ Right c by unfold Right; omega)]
  · rw [if_neg h1, if_neg (by omega), decide_eq_false (show ¬ Right c by unfold Right; omega)]
theorem ref_escape_f (b : Int) (h0 : 0 ≤ b) (h1 : b < 256) : PX.redactorref01_Escape.f b = some (-1 - b) := by
  unfold PX.redactorref01_Escape.f
  rw [w32 (i := b) (by omega) (by omega), w32 (by omega) (by omega)]

def needN (b : Int) : Int := if b < 128 then 1 else if 194 ≤ b ∧ b ≤ 223 then 2 else if 224 ≤ b ∧ b ≤ 239 then 3 else if 240 ≤ b ∧ b ≤ 244 then 4 else 0
theorem need_f (k : Nat) (b : Int) (hk : 2 ≤ k) : PX.redactorref01_need.f k b = some (needN b) := by
  obtain ⟨k, rfl⟩ : ∃ m, k = m + 2 := ⟨k - 2, by omega⟩
  have ej1 : ∀ v : Bool, PX.redactorref01_need.j1 (k + 1) b v = some (if v = true then 3 else if 240 ≤ b ∧ b ≤ 244 then 4 else 0) := by
    intro v
    simp only [PX.redactorref01_need.j1]
    cases v with
    | true => rw [if_pos rfl, if_pos rfl]
    | false =>
      rw [if_neg Bool.false_ne_true, if_neg Bool.false_ne_true]
      by_cases h : b ≥ 240
      · rw [if_pos h]
        by_cases h2 : b ≤ 244
        · rw [if_pos h2, if_pos ⟨h, h2⟩]
        · rw [if_neg h2, if_neg (by omega)]
      · rw [if_neg h, if_neg (by omega)]
  have ej0 : ∀ v : Bool, PX.redactorref01_need.j0 (k + 2) b v = some (if v = true then 2 else if 224 ≤ b ∧ b ≤ 239 then 3 else if 240 ≤ b ∧ b ≤ 244 then 4 else 0) := by
    intro v
    simp only [PX.redactorref01_need.j0]
    cases v with
    | true => rw [if_pos rfl, if_pos rfl]
    | false =>
      rw [if_neg Bool.false_ne_true, if_neg Bool.false_ne_true]
      by_cases h : b ≥ 224
      · rw [if_pos h, ej1]
        by_cases h2 : b ≤ 239
        · rw [decide_eq_true h2, if_pos rfl, if_pos ⟨h, h2⟩]
        · rw [decide_eq_false h2, if_neg Bool.false_ne_true, if_neg (show ¬ (224 ≤ b ∧ b ≤ 239) by omega)]
      · rw [if_neg h, ej1, if_neg Bool.false_ne_true, if_neg (show ¬ (224 ≤ b ∧ b ≤ 239) by omega)]
  unfold PX.redactorref01_need.f needN
  by_cases h : b < 128
  · rw [if_pos h, if_pos h]
  · rw [if_neg h, if_neg h]
    by_cases h1 : b ≥ 194
    · rw [if_pos h1, ej0]
      by_cases h2 : b ≤ 223
      · rw [decide_eq_true h2, if_pos rfl, if_pos ⟨h1, h2⟩]
      · rw [decide_eq_false h2, if_neg Bool.false_ne_true, if_neg (show ¬ (194 ≤ b ∧ b ≤ 223) by omega)]
    · rw [if_neg h1, ej0, if_neg Bool.false_ne_true, if_neg (show ¬ (194 ≤ b ∧ b ≤ 223) by omega)]

theorem first_ok (k : Nat) (s : ByteArray) (n c i : Int) (h0 : 0 ≤ i) (h1 : i < n) (h2 : i < (s.size : Int)) (h3 : i < 10) (b0 : ¬ bt s i < 128) (b1 : ¬ bt s i > 191) (c0 : 0 ≤ c) (c1 : c < 1048576) :
    PX.redactorref01_First.l0 (k + 1) s n c i = PX.redactorref01_First.l0 k s n (c * 64 + bt s i % 64) (i + 1) := by
  simp only [PX.redactorref01_First.l0]
  rw [if_pos h1, if_pos h0, if_pos h2, if_neg b0, if_neg b1, Int.tmod_eq_emod_of_nonneg (by omega), w32 (i := c * 64) (by omega) (by omega), w32 (i := bt s i % 64) (by omega) (by omega), w32 (by omega) (by omega), w64 (by omega) (by omega)]
theorem first_bad (k : Nat) (s : ByteArray) (n c i : Int) (h0 : 0 ≤ i) (h1 : i < n) (h2 : i < (s.size : Int)) (b0 : bt s i < 128 ∨ bt s i > 191) :
    PX.redactorref01_First.l0 (k + 1) s n c i = some (0, 0) := by
  simp only [PX.redactorref01_First.l0]
  rw [if_pos h1, if_pos h0, if_pos h2]
  by_cases h : bt s i < 128
  · rw [if_pos h]
  · rw [if_neg h, if_pos (by omega)]
theorem first_end (k : Nat) (s : ByteArray) (n c : Int) (h0 : 1 ≤ n) (h1 : n ≤ 4) :
    PX.redactorref01_First.l0 (k + 1) s n c n = some (if c < rd [0, 0, 128, 2048, 65536] n then (0, 0) else if Right c then (c, n) else (0, 0)) := by
  simp only [PX.redactorref01_First.l0]
  rw [if_neg (by omega), Option.bind_some, if_pos (by omega), if_pos (by simp; omega)]
  by_cases h : c < rd [0, 0, 128, 2048, 65536] n
  · rw [if_pos h, if_pos h]
  · rw [if_neg h, if_neg h, ref_right_f, Option.bind_some]
    by_cases hr : Right c
    · rw [decide_eq_true hr, if_pos rfl, if_pos hr]
    · rw [decide_eq_false hr, if_neg (by simp), if_neg hr]
theorem first_j0 (k : Nat) (s : ByteArray) (n x : Int) (h0 : 2 ≤ n) (h1 : n ≤ 4) (hs : n ≤ (s.size : Int)) (hx : bt s 0 = x) (x0 : 0 ≤ x) (x1 : x < 256) :
    PX.redactorref01_First.j0 (k + 2) s n false = PX.redactorref01_First.l0 k s n (x % (2 ^ (7 - n).toNat)) 1 := by
  have e : Int.tmod (wrap32 x) (shl .i32 1 (IntKind.u64.wrap (wrap64 (7 - n)))) = x % (2 ^ (7 - n).toNat) ∧ 0 ≤ IntKind.u64.wrap (wrap64 (7 - n)) ∧ ¬ shl .i32 1 (IntKind.u64.wrap (wrap64 (7 - n))) = 0 := by
    rw [w32 (by omega) (by omega), Int.tmod_eq_emod_of_nonneg x0]
    have h : n = 2 ∨ n = 3 ∨ n = 4 := by omega
    rcases h with rfl | rfl | rfl
    · have e2 : shl .i32 1 (IntKind.u64.wrap (wrap64 (7 - 2))) = 32 := by rw [w64 (by omega) (by omega)]; decide
      rw [e2]
      exact ⟨rfl, by rw [w64 (by omega) (by omega)]; decide, by decide⟩
    · have e2 : shl .i32 1 (IntKind.u64.wrap (wrap64 (7 - 3))) = 16 := by rw [w64 (by omega) (by omega)]; decide
      rw [e2]
      exact ⟨rfl, by rw [w64 (by omega) (by omega)]; decide, by decide⟩
    · have e2 : shl .i32 1 (IntKind.u64.wrap (wrap64 (7 - 4))) = 8 := by rw [w64 (by omega) (by omega)]; decide
      rw [e2]
      exact ⟨rfl, by rw [w64 (by omega) (by omega)]; decide, by decide⟩
  simp only [PX.redactorref01_First.j0]
  rw [if_neg (by simp), if_pos (by omega), if_pos (by omega), if_pos e.2.1, if_neg e.2.2, hx, e.1]
  simp only [PX.redactorref01_First.j1]

/-- The document's first scalar is the library's, or both say that there is none. -/
theorem first_f (k : Nat) (x : Int) (t : List Int) (h : Bytes (x :: t)) (hk : 8 ≤ k) :
    PX.redactorref01_First.f k (strOfNums (x :: t)) = some (if decP (x :: t) = (65533, 1) then (0, 0) else decP (x :: t)) := by
  obtain ⟨b0, b1, b2, b3, e0, e1, e2, e3, l0, l1, l2, l3⟩ := rds h
  have hd : decP (x :: t) = (((Lib.decodeN (t.length + 1) b0 b1 b2 b3).1 : Int), ((Lib.decodeN (t.length + 1) b0 b1 b2 b3).2 : Int)) := by
    rw [decP_cons, e1, e2, e3, e0]
    simp only [Int.toNat_natCast]
  have hsz : ((strOfNums (x :: t)).size : Int) = (t.length : Int) + 1 := by rw [strOfNums_size]; simp
  have t0 : bt (strOfNums (x :: t)) 0 = b0 := by rw [bt_f h, rd0, e0]
  have t1 : bt (strOfNums (x :: t)) 1 = b1 := by rw [bt_f h, e1]
  have t2 : bt (strOfNums (x :: t)) 2 = b2 := by rw [bt_f h, e2]
  have t3 : bt (strOfNums (x :: t)) 3 = b3 := by rw [bt_f h, e3]
  obtain ⟨k, rfl⟩ : ∃ m, k = m + 8 := ⟨k - 8, by omega⟩
  unfold PX.redactorref01_First.f
  rw [if_neg (fun e => by have := (toList_nil _).1 e; cases this), if_pos (by omega), need_f _ _ (by omega), Option.bind_some, t0, hd]
  generalize hsE : strOfNums (x :: t) = s at *
  have err : Lib.decodeN (t.length + 1) b0 b1 b2 b3 = (65533, 1) → some ((0 : Int), (0 : Int)) = some (if ((((Lib.decodeN (t.length + 1) b0 b1 b2 b3).1 : Int), ((Lib.decodeN (t.length + 1) b0 b1 b2 b3).2 : Int)) : Int × Int) = (65533, 1) then (0, 0) else ((((Lib.decodeN (t.length + 1) b0 b1 b2 b3).1 : Int), ((Lib.decodeN (t.length + 1) b0 b1 b2 b3).2 : Int)))) := by
    intro hh
    rw [hh]
    rfl
  have val : ∀ c w : Nat, Lib.decodeN (t.length + 1) b0 b1 b2 b3 = (c, w) → ¬ (w = 1 ∧ c = 65533) → some ((c : Int), (w : Int)) = some (if ((((Lib.decodeN (t.length + 1) b0 b1 b2 b3).1 : Int), ((Lib.decodeN (t.length + 1) b0 b1 b2 b3).2 : Int)) : Int × Int) = (65533, 1) then (0, 0) else ((((Lib.decodeN (t.length + 1) b0 b1 b2 b3).1 : Int), ((Lib.decodeN (t.length + 1) b0 b1 b2 b3).2 : Int)))) := by
    intro c w hh hn
    rw [hh, if_neg (fun e => by injection e with e5 e6; omega)]
  clear hd e1 e2 e3 h hsE
  unfold needN
  by_cases c1 : (b0 : Int) < 128
  · rw [if_pos c1, if_neg (by omega), decide_eq_false (by omega)]
    have e : PX.redactorref01_First.j0 (k + 8) s 1 false = PX.redactorref01_First.l0 (k + 6) s 1 b0 1 := by
      simp only [PX.redactorref01_First.j0]
      rw [if_neg (by simp), if_pos (by omega), if_neg (by omega), t0, w32 (by omega) (by omega)]
      simp only [PX.redactorref01_First.j1]
    rw [e, first_end (k + 5) s 1 _ (by omega) (by omega), if_neg (by show ¬ (b0 : Int) < 0; omega), if_pos (by unfold Right; omega)]
    exact val b0 1 (by unfold Lib.decodeN; rw [if_pos (by omega)]) (by omega)
  · rw [if_neg c1]
    by_cases c2 : 194 ≤ (b0 : Int) ∧ (b0 : Int) ≤ 223
    · rw [if_pos c2, if_neg (by omega)]
      by_cases hs2 : (2 : Int) > (s.size : Int)
      · rw [decide_eq_true hs2]
        simp only [PX.redactorref01_First.j0]
        rw [if_pos trivial]
        refine err ?_
        unfold Lib.decodeN
        rw [if_neg (by omega), if_neg (by omega), if_neg (by omega), if_neg (by omega)]
      · rw [decide_eq_false hs2, first_j0 (k + 6) s 2 b0 (by omega) (by omega) (by omega) t0 (by omega) (by omega)]
        by_cases q1 : bt s 1 < 128 ∨ bt s 1 > 191
        · rw [first_bad (k + 5) s 2 _ 1 (by omega) (by omega) (by omega) q1]
          rw [t1] at q1
          refine err ?_
          unfold Lib.decodeN
          rw [if_neg (by omega), if_neg (by omega), if_neg (by omega), if_neg (by omega)]
        · have ex : (b0 : Int) % 2 ^ (7 - 2 : Int).toNat = (b0 : Int) % 32 := rfl
          rw [ex, first_ok (k + 5) s 2 _ 1 (by omega) (by omega) (by omega) (by omega) (by omega) (by omega) (by omega) (by omega), t1]
          rw [t1] at q1
          rw [show (1 : Int) + 1 = 2 from rfl, first_end (k + 4) s 2 _ (by omega) (by omega), if_neg (by show ¬ (b0 : Int) % 32 * 64 + b1 % 64 < 128; omega), if_pos (by unfold Right; omega)]
          have := val (b0 % 32 * 64 + b1 % 64) 2 (by unfold Lib.decodeN; rw [if_neg (by omega), if_pos (by omega), if_pos (by omega)]) (by omega)
          rw [← this]
          simp
    · rw [if_neg c2]
      by_cases c3 : 224 ≤ (b0 : Int) ∧ (b0 : Int) ≤ 239
      · rw [if_pos c3, if_neg (by omega)]
        by_cases hs2 : (3 : Int) > (s.size : Int)
        · rw [decide_eq_true hs2]
          simp only [PX.redactorref01_First.j0]
          rw [if_pos trivial]
          refine err ?_
          unfold Lib.decodeN
          rw [if_neg (by omega), if_neg (by omega), if_neg (by omega), if_neg (by omega)]
        · rw [decide_eq_false hs2, first_j0 (k + 6) s 3 b0 (by omega) (by omega) (by omega) t0 (by omega) (by omega)]
          have ex : (b0 : Int) % 2 ^ (7 - 3 : Int).toNat = (b0 : Int) % 16 := rfl
          by_cases q1 : bt s 1 < 128 ∨ bt s 1 > 191
          · rw [first_bad (k + 5) s 3 _ 1 (by omega) (by omega) (by omega) q1]
            rw [t1] at q1
            refine err ?_
            unfold Lib.decodeN
            rw [if_neg (by omega), if_neg (by omega), if_neg (by omega), if_neg (by omega)]
          · rw [ex, first_ok (k + 5) s 3 _ 1 (by omega) (by omega) (by omega) (by omega) (by omega) (by omega) (by omega) (by omega), t1]
            rw [t1] at q1
            by_cases q2 : bt s 2 < 128 ∨ bt s 2 > 191
            · rw [show (1 : Int) + 1 = 2 from rfl, first_bad (k + 4) s 3 _ 2 (by omega) (by omega) (by omega) q2]
              rw [t2] at q2
              refine err ?_
              unfold Lib.decodeN
              rw [if_neg (by omega), if_neg (by omega), if_neg (by omega), if_neg (by omega)]
            · rw [show (1 : Int) + 1 = 2 from rfl, first_ok (k + 4) s 3 _ 2 (by omega) (by omega) (by omega) (by omega) (by omega) (by omega) (by omega) (by omega), t2]
              rw [t2] at q2
              rw [show (2 : Int) + 1 = 3 from rfl, first_end (k + 3) s 3 _ (by omega) (by omega)]
              have er : rd [0, 0, 128, 2048, 65536] 3 = 2048 := rfl
              rw [er]
              have ev : ((b0 : Int) % 16 * 64 + b1 % 64) * 64 + b2 % 64 = ((b0 % 16 * 4096 + b1 % 64 * 64 + b2 % 64 : Nat) : Int) := by omega
              rw [ev]
              by_cases q3 : b0 % 16 * 4096 + b1 % 64 * 64 + b2 % 64 ≥ 2048 ∧ (b0 % 16 * 4096 + b1 % 64 * 64 + b2 % 64 < 55296 ∨ (57344 ≤ b0 % 16 * 4096 + b1 % 64 * 64 + b2 % 64 ∧ b0 % 16 * 4096 + b1 % 64 * 64 + b2 % 64 ≤ 1114111))
              · rw [if_neg (by omega), if_pos (by unfold Right; omega)]
                exact val _ 3 (by unfold Lib.decodeN; rw [if_neg (by omega), if_neg (by omega), if_pos (by omega), if_pos q3]) (by omega)
              · have e4 : Lib.decodeN (t.length + 1) b0 b1 b2 b3 = (65533, 1) := by
                  unfold Lib.decodeN
                  rw [if_neg (by omega), if_neg (by omega), if_pos (by omega), if_neg q3]
                by_cases q4 : ((b0 % 16 * 4096 + b1 % 64 * 64 + b2 % 64 : Nat) : Int) < 2048
                · rw [if_pos q4]; exact err e4
                · rw [if_neg q4, if_neg (by unfold Right; omega)]; exact err e4
      · rw [if_neg c3]
        by_cases c4 : 240 ≤ (b0 : Int) ∧ (b0 : Int) ≤ 244
        · rw [if_pos c4, if_neg (by omega)]
          by_cases hs2 : (4 : Int) > (s.size : Int)
          · rw [decide_eq_true hs2]
            simp only [PX.redactorref01_First.j0]
            rw [if_pos trivial]
            refine err ?_
            unfold Lib.decodeN
            rw [if_neg (by omega), if_neg (by omega), if_neg (by omega), if_neg (by omega)]
          · rw [decide_eq_false hs2, first_j0 (k + 6) s 4 b0 (by omega) (by omega) (by omega) t0 (by omega) (by omega)]
            have ex : (b0 : Int) % 2 ^ (7 - 4 : Int).toNat = (b0 : Int) % 8 := rfl
            by_cases q1 : bt s 1 < 128 ∨ bt s 1 > 191
            · rw [first_bad (k + 5) s 4 _ 1 (by omega) (by omega) (by omega) q1]
              rw [t1] at q1
              refine err ?_
              unfold Lib.decodeN
              rw [if_neg (by omega), if_neg (by omega), if_neg (by omega), if_neg (by omega)]
            · rw [ex, first_ok (k + 5) s 4 _ 1 (by omega) (by omega) (by omega) (by omega) (by omega) (by omega) (by omega) (by omega), t1]
              rw [t1] at q1
              by_cases q2 : bt s 2 < 128 ∨ bt s 2 > 191
              · rw [show (1 : Int) + 1 = 2 from rfl, first_bad (k + 4) s 4 _ 2 (by omega) (by omega) (by omega) q2]
                rw [t2] at q2
                refine err ?_
                unfold Lib.decodeN
                rw [if_neg (by omega), if_neg (by omega), if_neg (by omega), if_neg (by omega)]
              · rw [show (1 : Int) + 1 = 2 from rfl, first_ok (k + 4) s 4 _ 2 (by omega) (by omega) (by omega) (by omega) (by omega) (by omega) (by omega) (by omega), t2]
                rw [t2] at q2
                by_cases q3 : bt s 3 < 128 ∨ bt s 3 > 191
                · rw [show (2 : Int) + 1 = 3 from rfl, first_bad (k + 3) s 4 _ 3 (by omega) (by omega) (by omega) q3]
                  rw [t3] at q3
                  refine err ?_
                  unfold Lib.decodeN
                  rw [if_neg (by omega), if_neg (by omega), if_neg (by omega), if_neg (by omega)]
                · rw [show (2 : Int) + 1 = 3 from rfl, first_ok (k + 3) s 4 _ 3 (by omega) (by omega) (by omega) (by omega) (by omega) (by omega) (by omega) (by omega), t3]
                  rw [t3] at q3
                  rw [show (3 : Int) + 1 = 4 from rfl, first_end (k + 2) s 4 _ (by omega) (by omega)]
                  have er : rd [0, 0, 128, 2048, 65536] 4 = 65536 := rfl
                  rw [er]
                  have ev : (((b0 : Int) % 8 * 64 + b1 % 64) * 64 + b2 % 64) * 64 + b3 % 64 = ((b0 % 8 * 262144 + b1 % 64 * 4096 + b2 % 64 * 64 + b3 % 64 : Nat) : Int) := by omega
                  rw [ev]
                  by_cases q4 : b0 % 8 * 262144 + b1 % 64 * 4096 + b2 % 64 * 64 + b3 % 64 ≥ 65536 ∧ (b0 % 8 * 262144 + b1 % 64 * 4096 + b2 % 64 * 64 + b3 % 64 < 55296 ∨ (57344 ≤ b0 % 8 * 262144 + b1 % 64 * 4096 + b2 % 64 * 64 + b3 % 64 ∧ b0 % 8 * 262144 + b1 % 64 * 4096 + b2 % 64 * 64 + b3 % 64 ≤ 1114111))
                  · rw [if_neg (by omega), if_pos (by unfold Right; omega)]
                    exact val _ 4 (by unfold Lib.decodeN; rw [if_neg (by omega), if_neg (by omega), if_neg (by omega), if_pos (by omega), if_pos q4]) (by omega)
                  · have e4 : Lib.decodeN (t.length + 1) b0 b1 b2 b3 = (65533, 1) := by
                      unfold Lib.decodeN
                      rw [if_neg (by omega), if_neg (by omega), if_neg (by omega), if_pos (by omega), if_neg q4]
                    by_cases q5 : ((b0 % 8 * 262144 + b1 % 64 * 4096 + b2 % 64 * 64 + b3 % 64 : Nat) : Int) < 65536
                    · rw [if_pos q5]; exact err e4
                    · rw [if_neg q5, if_neg (by unfold Right; omega)]; exact err e4
        · rw [if_neg c4, if_pos rfl]
          simp only [PX.redactorref01_First.j0]
          rw [if_pos trivial]
          refine err ?_
          unfold Lib.decodeN
          rw [if_neg (by omega)]
          by_cases d2 : b0 / 32 = 6 ∧ (1 < t.length + 1 ∧ b1 / 64 = 2)
          · rw [if_pos d2, if_neg (by omega)]
          · rw [if_neg d2, if_neg (by omega)]
            by_cases d4 : b0 / 8 = 30 ∧ (1 < t.length + 1 ∧ b1 / 64 = 2) ∧ (2 < t.length + 1 ∧ b2 / 64 = 2) ∧ (3 < t.length + 1 ∧ b3 / 64 = 2)
            · rw [if_pos d4, if_neg (by omega)]
            · rw [if_neg d4]

theorem step_nat {i w L d k a : Nat} (hw : w ≤ L - i) (w1 : 1 ≤ w) (hlt : i < L) (hd : L ≤ i + (d + 1)) (hk : d + 1 + 8 < k + 1) (ha : a ≤ i) : i + w ≤ L ∧ L ≤ i + w + d ∧ d + 8 < k ∧ a + 1 ≤ i + w := by omega
theorem of_l0 (l : List Int) (h : Bytes l) (hl : l.length < 35184372088832) : ∀ (d k i : Nat) (acc : List Int), i ≤ l.length → l.length ≤ i + d → d + 8 < k → acc.length ≤ i →
    PX.redactorref01_Of.l0 k (strOfNums l) acc (i : Int) = some (acc ++ dec8 (l.drop i)) := by
  intro d
  induction d with
  | zero =>
    intro k i acc hi hd hk ha
    obtain ⟨k, rfl⟩ : ∃ m, k = m + 1 := ⟨k - 1, by omega⟩
    simp only [PX.redactorref01_Of.l0]
    rw [if_neg (by rw [strOfNums_size]; omega), List.drop_eq_nil_of_le (by omega), decode_nil, List.append_nil]
  | succ d ih =>
    intro k i acc hi hd hk ha
    obtain ⟨k, rfl⟩ : ∃ m, k = m + 1 := ⟨k - 1, by omega⟩
    by_cases hlt : i < l.length
    · have hacc : acc.length < 35184372088832 := Nat.lt_of_le_of_lt ha (Nat.lt_trans hlt hl)
      have e := drop_rd l i hlt
      have hb := h.drop i
      rw [e] at hb
      have ei : ((i : Int)).toNat = i := by omega
      simp only [PX.redactorref01_Of.l0]
      rw [if_pos (by rw [strOfNums_size]; omega), if_pos (by omega), if_pos (by rw [strOfNums_size]; omega), ei, extract_f, e, first_f k _ _ hb (by omega), Option.bind_some, bt_f h, decode_cons]
      have hx := hb.head
      rcases decP_cases hb with ⟨e1, e2⟩ | ⟨c, w, e1, hn, e2, w1, w2, hc, hr, hs⟩
      · have ew : wrap64 ((i : Int) + 1) = ((i + 1 : Nat) : Int) := by rw [w64 (by omega) (by omega)]; omega
        rw [e1, e2, if_pos rfl, if_pos rfl, ref_escape_f _ hx.1 hx.2, Option.bind_some, if_pos hacc, ew, ih k (i + 1) (acc ++ [-1 - rd l i]) (by omega) (by omega) (by omega) (by rw [List.length_append, List.length_singleton]; omega)]
        simp
      · have hw : w ≤ l.length - i := by
          rw [List.length_cons, List.length_drop] at w2
          omega
        have hne : ¬ ((c, (w : Int)) = ((65533, 1) : Int × Int)) := fun e5 => by injection e5 with e6 e7; omega
        have ew : wrap64 ((i : Int) + (w : Int)) = ((i + w : Nat) : Int) := by rw [w64 (by omega) (by omega)]; omega
        have f0 : ¬ (w : Int) = 0 := by omega
        obtain ⟨f2, f3, f4, f5⟩ := step_nat hw w1 hlt hd hk ha
        have f6 : (acc ++ [c]).length ≤ i + w := by rw [List.length_append, List.length_singleton]; exact f5
        rw [e1, e2, if_neg hne, if_neg f0, if_pos hacc]
        show PX.redactorref01_Of.l0 k (strOfNums l) (acc ++ [c]) (wrap64 ((i : Int) + (w : Int))) = _
        rw [ew, ih k (i + w) (acc ++ [c]) f2 f3 f4 f6]
        have ed : l.drop (i + w) = (l.drop (i + 1)).drop (w - 1) := by rw [List.drop_drop]; congr 1; omega
        rw [ed]
        simp
    · simp only [PX.redactorref01_Of.l0]
      rw [if_neg (by rw [strOfNums_size]; omega), List.drop_eq_nil_of_le (by omega), decode_nil, List.append_nil]
theorem ref_decode_f (k : Nat) (l : List Int) (h : Bytes l) (hk : l.length + 8 < k) (hl : l.length < 35184372088832) : PX.redactorref02_Decode.f k l = some (dec8 l) := by
  unfold PX.redactorref02_Decode.f PX.redactorref01_Of.f
  have := of_l0 l h hl l.length k 0 [] (by omega) (by omega) hk (by simp)
  rw [show ((0 : Nat) : Int) = 0 from rfl] at this
  rw [this, Option.bind_some]
  rfl
#print axioms same_f
#print axioms ref_decode_f
end Go.Proofs.YtopkhidncfcjlaaDoor.Utf
