/- Utf8Bad: what is too long, or of a surrogate, or too great, is decoded to escapes alone: for all bytes that are drawn. No conditions. -/
import Derived.Test.YtopkhidncfcjlaaDoorPureUtfK
import Derived.Test.YtopkhidncfcjlaaDoorPX2
namespace Go.Proofs.YtopkhidncfcjlaaDoor.Pure
open Go.RowKit Go.Proofs.YtopkhidncfcjlaaDoor.PX Go.Proofs.YtopkhidncfcjlaaDoorW.PrintWords Go.Proofs.YtopkhidncfcjlaaDoorW.PrintLast Go.Proofs.YtopkhidncfcjlaaDoor.Utf

/-- Bytes that are decoded to escapes, one a byte. -/
def Bad (l : List Int) : Prop := Bytes l ∧ l.length ≤ 4 ∧ (dec8 l).length = l.length ∧ ∀ c ∈ dec8 l, c < 0
theorem bad_nil : Bad [] := ⟨Bytes.nil, by simp, by rw [decode_nil], fun c hc => by rw [decode_nil] at hc; cases hc⟩
theorem bad_cons {x : Int} {t : List Int} (h0 : 0 ≤ x) (h1 : x < 256) (hl : t.length ≤ 3) (h : Bad t) (he : Lib.decodeN (t.length + 1) x.toNat (rd (x :: t) 1).toNat (rd (x :: t) 2).toNat (rd (x :: t) 3).toNat = (65533, 1)) : Bad (x :: t) := by
  have e1 : one (x :: t) = (-1 - x, 1) := by
    unfold one
    rw [decP_cons, he]
    rfl
  have e : dec8 (x :: t) = (-1 - x) :: dec8 t := by
    rw [decode_cons, e1]
    rfl
  refine ⟨Bytes.cons h0 h1 h.1, by simp; omega, ?_, ?_⟩
  · rw [e, List.length_cons, List.length_cons, h.2.2.1]
  · rw [e]
    intro c hc
    rcases List.mem_cons.1 hc with rfl | hc
    · omega
    · exact h.2.2.2 c hc
theorem bad_cont {x : Int} {t : List Int} (h0 : 128 ≤ x) (h1 : x < 192) (hl : t.length ≤ 3) (h : Bad t) : Bad (x :: t) := by
  refine bad_cons (by omega) (by omega) hl h ?_
  unfold Lib.decodeN
  rw [if_neg (by omega), if_neg (by omega), if_neg (by omega), if_neg (by omega)]

theorem bad_l1 (X : List (List Int)) (i : Int) (t : List Int) (ht : ∀ c ∈ t, c < 0) (hs : t.length < 100) (r : Bool) (hr : Ev (fun k => redactorlaw02_Utf8Bad.l0 k X (wrap64 (i + 1))) r) :
    ∀ (d j : Nat), j + d = t.length → Ev (fun k => redactorlaw02_Utf8Bad.l1 k X i t (j : Int)) r := by
  intro d
  induction d with
  | zero =>
    intro j hj
    refine Ev.step (f := fun k => redactorlaw02_Utf8Bad.l0 k X (wrap64 (i + 1))) (fun k => ?_) hr
    simp only [redactorlaw02_Utf8Bad.l1]
    rw [if_neg (by omega)]
  | succ d ih =>
    intro j hj
    refine Ev.step (f := fun k => redactorlaw02_Utf8Bad.l1 k X i t ((j + 1 : Nat) : Int)) (fun k => ?_) (ih (j + 1) (by omega))
    have hc : rd t (j : Int) < 0 := by
      have := drop_rd t j (by omega)
      exact ht _ (List.mem_of_mem_drop (this ▸ List.mem_cons_self))
    have ew : wrap64 ((j : Int) + 1) = ((j + 1 : Nat) : Int) := by rw [w64 (by omega) (by omega)]; omega
    simp only [redactorlaw02_Utf8Bad.l1]
    rw [if_pos (by omega), if_pos (by omega), if_neg (by omega), ew]
theorem bad_l0 (X : List (List Int)) (hX : ∀ y ∈ X, Bad y) (hs : X.length < 100) : ∀ (d i : Nat), i + d = X.length → Ev (fun k => redactorlaw02_Utf8Bad.l0 k X (i : Int)) true := by
  intro d
  induction d with
  | zero =>
    intro i hi
    refine Ev.step (f := fun k => (redactorlaw02_known.f k).bind fun t => some t) (fun k => ?_) ⟨21, fun k hk => by show (redactorlaw02_known.f k).bind _ = _; rw [known_f k (by omega)]; rfl⟩
    simp only [redactorlaw02_Utf8Bad.l0]
    rw [if_neg (by omega)]
  | succ d ih =>
    intro i hi
    have hlt : i < X.length := by omega
    have hg : rd_L2 X (i : Int) = X[i] := by
      unfold rd_L2
      simp [List.getElem?_eq_getElem hlt]
    obtain ⟨hB, hl, he, hc⟩ := hX _ (List.getElem_mem hlt)
    have ew : wrap64 ((i : Int) + 1) = ((i + 1 : Nat) : Int) := by rw [w64 (by omega) (by omega)]; omega
    have hin := bad_l1 X i (dec8 X[i]) hc (by omega) true (by rw [ew]; exact ih (i + 1) (by omega)) (dec8 X[i]).length 0 (by omega)
    refine Ev.step (f := fun k => (utf8_Decode.f k X[i]).bind fun t => if (t.length : Int) = ((X[i]).length : Int) then redactorlaw02_Utf8Bad.l1 k X i t 0 else some false) (fun k => ?_)
      (Ev.bind (f := fun k t => if (t.length : Int) = ((X[i]).length : Int) then redactorlaw02_Utf8Bad.l1 k X i t 0 else some false) ⟨5, fun k hk => decode_f k _ hB (by omega) (by omega)⟩ ?_)
    · simp only [redactorlaw02_Utf8Bad.l0]
      rw [if_pos (by omega), if_pos (by omega), hg]
    · refine Ev.congr (f := fun k => redactorlaw02_Utf8Bad.l1 k X i (dec8 X[i]) 0) (fun k => ?_) hin
      show (if _ then _ else _) = _
      rw [if_pos (by omega)]

theorem Utf8Bad : redactorlaw02_Utf8Bad.Pure := by
  intro a b ha hb
  obtain ⟨a0, a1⟩ := wf_u8 ha
  obtain ⟨b0, b1⟩ := wf_u8 hb
  refine Ev.rounds (g := fun k => redactorlaw02_Utf8Bad.f k a b) ?_
  unfold redactorlaw02_Utf8Bad.f
  have t2 : Int.tmod a 2 = a % 2 := Int.tmod_eq_emod_of_nonneg a0
  have t32 : Int.tmod a 32 = a % 32 := Int.tmod_eq_emod_of_nonneg a0
  have t16 : Int.tmod a 16 = a % 16 := Int.tmod_eq_emod_of_nonneg a0
  have t48 : Int.tmod a 48 = a % 48 := Int.tmod_eq_emod_of_nonneg a0
  have t11 : Int.tmod a 11 = a % 11 := Int.tmod_eq_emod_of_nonneg a0
  have t64 : Int.tmod b 64 = b % 64 := Int.tmod_eq_emod_of_nonneg b0
  rw [t2, t32, t16, t48, t11, t64]
  have e1 : (192 + a % 2) % 256 = 192 + a % 2 := by omega
  have e2 : (128 + b % 64) % 256 = 128 + b % 64 := by omega
  have e3 : (128 + a % 32) % 256 = 128 + a % 32 := by omega
  have e4 : (160 + a % 32) % 256 = 160 + a % 32 := by omega
  have e5 : (128 + a % 16) % 256 = 128 + a % 16 := by omega
  have e6 : (144 + a % 48) % 256 = 144 + a % 48 := by omega
  have e7 : (245 + a % 11) % 256 = 245 + a % 11 := by omega
  rw [e1, e2, e3, e4, e5, e6, e7]
  have c1 : Bad [128 + b % 64] := bad_cont (by omega) (by omega) (by simp) bad_nil
  have c2 : Bad [128 + b % 64, 128] := bad_cont (by omega) (by omega) (by simp) (bad_cont (by omega) (by omega) (by simp) bad_nil)
  refine bad_l0 _ ?_ (by simp) 6 0 (by simp)
  intro y hy
  simp only [List.mem_cons, List.not_mem_nil, or_false] at hy
  rcases hy with rfl | rfl | rfl | rfl | rfl | rfl
  · refine bad_cons (by omega) (by omega) (by simp) c1 ?_
    rw [rd1]
    unfold Lib.decodeN
    rw [if_neg (by omega), if_pos (by simp; omega), if_neg (by omega)]
  · refine bad_cons (by omega) (by omega) (by simp) (bad_cont (by omega) (by omega) (by simp) c1) ?_
    rw [rd1, rd2]
    unfold Lib.decodeN
    rw [if_neg (by omega), if_neg (by omega), if_pos (by simp; omega), if_neg (by omega)]
  · refine bad_cons (by omega) (by omega) (by simp) (bad_cont (by omega) (by omega) (by simp) c1) ?_
    rw [rd1, rd2]
    unfold Lib.decodeN
    rw [if_neg (by omega), if_neg (by omega), if_pos (by simp; omega), if_neg (by omega)]
  · refine bad_cons (by omega) (by omega) (by simp) (bad_cont (by omega) (by omega) (by simp) c2) ?_
    rw [rd1, rd2, rd3]
    unfold Lib.decodeN
    rw [if_neg (by omega), if_neg (by omega), if_neg (by omega), if_pos (by simp; omega), if_neg (by omega)]
  · refine bad_cons (by omega) (by omega) (by simp) (bad_cont (by omega) (by omega) (by simp) c2) ?_
    rw [rd1, rd2, rd3]
    unfold Lib.decodeN
    rw [if_neg (by omega), if_neg (by omega), if_neg (by omega), if_pos (by simp; omega), if_neg (by omega)]
  · refine bad_cons (by omega) (by omega) (by simp) c1 ?_
    rw [rd1]
    unfold Lib.decodeN
    rw [if_neg (by omega), if_neg (by omega), if_neg (by omega), if_neg (by simp)]
end Go.Proofs.YtopkhidncfcjlaaDoor.Pure
