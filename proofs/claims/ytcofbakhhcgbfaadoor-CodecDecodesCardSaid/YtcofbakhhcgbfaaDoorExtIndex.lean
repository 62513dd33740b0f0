/- slices.IndexFunc and slices.ContainsFunc with package codec's own test of cells: whether there is a cell that may not be. Conditions: the row's length is below 2^45. -/
import Derived.Test.YtcofbakhhcgbfaaDoorPM4
import Derived.Test.YtcofbakhhcgbfaaDoorPM3
namespace Go.Proofs.YtcofbakhhcgbfaaDoor.EC
open Go.RowKit Go.Proofs.YtcofbakhhcgbfaaDoorW.PrintWords Go.Proofs.YtcofbakhhcgbfaaDoorW.PrintLast Go.Proofs.YtcofbakhhcgbfaaDoorW.PrintMore
set_option linter.unusedVariables false

def good (x : Int) : Bool := if x ≥ (-256) then (if x ≤ 1114111 then (if x < 55296 then true else decide (x > 57343)) else false) else false
theorem test_f (x : Int) : PM.codec_Encode_1.f x = some (!(good x)) := by
  unfold PM.codec_Encode_1.f PM.cell_Right.f good
  split <;> (try split) <;> (try split) <;> rfl
def idx : List Int → Int → Int
  | [], _ => -1
  | x :: xs, j => if good x = true then idx xs (j + 1) else j
theorem idx_sign : ∀ (l : List Int) (j : Int), 0 ≤ j → decide (idx l j ≥ 0) = !(l.all good)
  | [], j, h => by simp [idx]
  | x :: xs, j, h => by
    unfold idx
    by_cases hx : good x = true
    · rw [if_pos hx, idx_sign xs (j + 1) (by omega), List.all_cons, hx, Bool.true_and]
    · rw [if_neg hx, List.all_cons]
      simp only [Bool.not_eq_true] at hx
      simp [hx, h]
theorem idx_end (l : List Int) (j : Nat) (q : Int) (h : ¬ j < l.length) : idx (l.drop j) q = -1 := by
  rw [List.drop_of_length_le (by omega)]; rfl
theorem idx_at (l : List Int) (j : Nat) (h : j < l.length) (q : Int) : idx (l.drop j) q = if good (rd l j) = true then idx (l.drop (j + 1)) (q + 1) else q := by
  have e : l.drop j = rd l j :: l.drop (j + 1) := by
    rw [List.drop_eq_getElem_cons h]
    unfold rd
    simp [List.getElem?_eq_getElem h]
  rw [e]; rfl

set_option maxHeartbeats 4000000 in
set_option maxRecDepth 100000 in
theorem index_calls (A : Option Addr) (c : Nat) (l : List Int) (w : World) (hr : Kd.C (Kd.int .i32) w A l.length l) (hl : l.length < 35184372088832) :
    Calls Tryd.prog 42 #[.slice A l.length c, .func (.func 27) #[] #[]] w fun e w' => e = .returned (.int .i64 (idx l 0)) ∧ Drawn0 w w' := by
  have HR := Aside0.mk hr
  have HL := Aside0.mk hl
  clear hr hl
  go_enter Tryd.func42, Tryd.ntmps42
  go_wp2
  go_loopg [8] (l.length + 1) (fun kq v8 wr => ∃ (j : Nat), v8 = .int .i64 j ∧ Aside0 (kq + j = l.length + 1) ∧ Aside0 (idx (l.drop j) j = idx l 0) ∧ Aside0 (Drawn0 w wr))
  case atStart => exact ⟨0, rfl, ⟨by omega⟩, ⟨rfl⟩, ⟨Drawn0.refl _⟩⟩
  case round =>
    obtain ⟨j, rfl, HK, HI, HD⟩ := hrel
    by_cases hlt : j < l.length
    · obtain ⟨k1, rfl⟩ : ∃ m, gk = m + 1 := ⟨gk - 1, by have := HK.out; omega⟩
      obtain ⟨ad, rfl, hx⟩ := Kd.at_int ((Kd.heap_int .i32).C (fun k hk => HD.out.below.block k hk) HR.out) (j : Int) (by omega) (by omega)
      have t1 : decide ((j : Int) < (l.length : Int)) = true := decide_eq_true (by omega)
      have t2 : ((j : Int)).toNat = j := by omega
      rw [t2] at hx
      obtain ⟨xj, hxj⟩ : ∃ x : Int, x = rd l j := ⟨_, rfl⟩
      rw [← hxj] at hx
      have key := Aside0.mk (test_f xj)
      have hi2 := HI.out
      rw [idx_at l j hlt, ← hxj] at hi2
      have HI2 := Aside0.mk hi2
      clear hi2
      have HLT := Aside0.mk hlt
      by_cases hg : good xj = true
      · have KG := Aside0.mk hg
        have key2 := test_f xj
        rw [hg] at key2
        have KEY := Aside0.mk key2
        clear hg key2 hxj t2
        go_wp2_with (go_at_call 27; refine (PM.codec_Encode_1.calls xj false _ KEY.out).mono ?_; rintro e w2 ⟨rfl, hd⟩; have HD2 := Aside0.mk hd; clear hd)
        go_roundg k1
        case measure => omega
        case rel =>
          refine ⟨j + 1, by (have h1 := HL.out; have h2 := HLT.out; congr 1; unfold wrap64; omega), ⟨by have := HK.out; omega⟩, ⟨?_⟩, ⟨?_⟩⟩
          · have := HI2.out; rw [if_pos KG.out] at this; exact this
          · obtain ⟨n, hn⟩ := HD2.out.out; rw [hn]; exact HD.out.step n
      · have KG := Aside0.mk hg
        have key2 := test_f xj
        rw [Bool.eq_false_iff.2 hg] at key2
        have KEY := Aside0.mk key2
        have hi3 := HI2.out
        rw [if_neg hg] at hi3
        have HI3 := Aside0.mk hi3
        clear hi3 hg key2 hxj t2
        go_wp2_with (go_at_call 27; refine (PM.codec_Encode_1.calls xj true _ KEY.out).mono ?_; rintro e w2 ⟨rfl, hd⟩; have HD2 := Aside0.mk hd; clear hd)
        go_ret
        refine ⟨by rw [← HI3.out]; rfl, ?_⟩
        obtain ⟨n, hn⟩ := HD2.out.out; rw [hn]; exact HD.out.step n
    · have t1 : decide ((j : Int) < (l.length : Int)) = false := decide_eq_false (by omega)
      have hi2 := HI.out
      rw [idx_end l j _ hlt] at hi2
      have HI2 := Aside0.mk hi2
      clear hi2
      go_wp2
      go_ret
      exact ⟨by rw [← HI2.out]; rfl, HD.out⟩

set_option maxRecDepth 100000 in
theorem contains_calls (A : Option Addr) (c : Nat) (l : List Int) (w : World) (hr : Kd.C (Kd.int .i32) w A l.length l) (hl : l.length < 35184372088832) :
    Calls Tryd.prog 26 #[.slice A l.length c, .func (.func 27) #[] #[]] w fun e w' => e = .returned (.bool (!(l.all good))) ∧ Drawn0 w w' := by
  have key := Aside0.mk (index_calls A c l w hr hl)
  have S := Aside0.mk (idx_sign l 0 (by omega))
  clear hr hl
  go_enter Tryd.func26, Tryd.ntmps26
  go_wp2_with (go_at_call 42; refine key.out.mono ?_; rintro e w2 ⟨rfl, hd⟩; have HD2 := Aside0.mk hd; clear hd)
  go_ret
  exact ⟨by rw [← S.out]; rfl, HD2.out⟩
#print axioms contains_calls
end Go.Proofs.YtcofbakhhcgbfaaDoor.EC
