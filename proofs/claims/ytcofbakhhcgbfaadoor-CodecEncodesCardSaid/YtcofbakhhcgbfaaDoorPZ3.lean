/- Functions of the program told as plain functions, and that each call comes to what its function says. Conditions: each contract names its own. (Written by xprint.py, a program of this session, by way of the print of the kit; not trusted: Lean checks it.) -/
import Derived.Test.YtcofbakhhcgbfaaDoorPZ0
import Derived.Test.YtcofbakhhcgbfaaDoorPZ1
import Derived.Test.YtcofbakhhcgbfaaDoorPZ2
namespace Go.Proofs.YtcofbakhhcgbfaaDoor.PX
end Go.Proofs.YtcofbakhhcgbfaaDoor.PX
namespace Go.Proofs.YtcofbakhhcgbfaaDoor.KX
end Go.Proofs.YtcofbakhhcgbfaaDoor.KX
namespace Go.Proofs.YtcofbakhhcgbfaaDoor.PZ
open Go.RowKit Go.Proofs.YtcofbakhhcgbfaaDoor.PX Go.Proofs.YtcofbakhhcgbfaaDoor.KX Go.Proofs.YtcofbakhhcgbfaaDoorW.PrintWords Go.Proofs.YtcofbakhhcgbfaaDoorW.PrintLast Go.Proofs.YtcofbakhhcgbfaaDoorW.PrintMore
attribute [local go_sem] max2_int min2_int max_two min_two max_three min_three max_four min_four   -- for this text's walks alone
set_option linter.unusedVariables false
set_option linter.unusedSimpArgs false

/-! ### redactorref04_Encode: function 31 -/
mutual
def redactorref04_Encode.j0 : Nat → Bool → Int → Bool → Bool → List Int → Option (List Int × Int)
  | 0, _, _, _, _, _ => none
  | k + 1, x28, x198000, x198001, x198002, x198003 => if x28 = true then (some (([] : List Int), 1)) else (redactorref04_Encode.l0 k 0 x198000 x198001 x198002 x198003)
def redactorref04_Encode.l0 : Nat → Int → Int → Bool → Bool → List Int → Option (List Int × Int)
  | 0, _, _, _, _, _ => none
  | k + 1, x4, x198000, x198001, x198002, x198003 => if x4 < (x198003.length : Int) then (if 0 ≤ x4 then ((redactorref01_Right.f (rd x198003 x4)).bind fun t199 => (if t199 = true then (redactorref04_Encode.l0 k (wrap64 (x4 + 1)) x198000 x198001 x198002 x198003) else (some (([] : List Int), 10)))) else (none)) else (if x198000 = 1 then ((redactorref02_Encode.f k x198003).bind fun bt200 => (some (bt200.1, bt200.2))) else (if x198000 = 3 then ((redactorref04_latin.f k x198003).bind fun bt204 => (some (bt204.1, bt204.2))) else (if x198002 = true then (redactorref04_Encode.j2 k ([] : List Int) x198001 x198000 x198001 x198002 x198003) else (redactorref04_Encode.j2 k ([] : List Int) false x198000 x198001 x198002 x198003))))
def redactorref04_Encode.j2 : Nat → List Int → Bool → Int → Bool → Bool → List Int → Option (List Int × Int)
  | 0, _, _, _, _, _, _ => none
  | k + 1, x5, x64, x198000, x198001, x198002, x198003 => if x64 = true then ((some (([254, 255] : List Int) : List Int)).bind fun y208 => (if x198002 = true then (if x198001 = true then ((redactorref03_Encode.f k x198003 x198001).bind fun bt211 => (if y208.length + bt211.1.length < 140737488355328 then (some ((y208 ++ bt211.1), 0)) else (none))) else ((some (([255, 254] : List Int) : List Int)).bind fun y218 => ((redactorref03_Encode.f k x198003 x198001).bind fun bt221 => (if y218.length + bt221.1.length < 140737488355328 then (some ((y218 ++ bt221.1), 0)) else (none))))) else ((redactorref03_Encode.f k x198003 x198001).bind fun bt228 => (if y208.length + bt228.1.length < 140737488355328 then (some ((y208 ++ bt228.1), 0)) else (none))))) else (if x198002 = true then (if x198001 = true then ((redactorref03_Encode.f k x198003 x198001).bind fun bt235 => (if x5.length + bt235.1.length < 140737488355328 then (some ((x5 ++ bt235.1), 0)) else (none))) else ((some (([255, 254] : List Int) : List Int)).bind fun y242 => ((redactorref03_Encode.f k x198003 x198001).bind fun bt245 => (if y242.length + bt245.1.length < 140737488355328 then (some ((y242 ++ bt245.1), 0)) else (none))))) else ((redactorref03_Encode.f k x198003 x198001).bind fun bt252 => (if x5.length + bt252.1.length < 140737488355328 then (some ((x5 ++ bt252.1), 0)) else (none))))
end
def redactorref04_Encode.f (k : Nat) (a0_0 : Int) (a0_1 : Bool) (a0_2 : Bool) (l0_3 : List Int) : Option (List Int × Int) := if a0_0 < 1 then (redactorref04_Encode.j0 k true a0_0 a0_1 a0_2 l0_3) else (if a0_0 > 3 then (redactorref04_Encode.j0 k true a0_0 a0_1 a0_2 l0_3) else (if a0_0 = 2 then (redactorref04_Encode.j0 k false a0_0 a0_1 a0_2 l0_3) else (if a0_1 = true then (redactorref04_Encode.j0 k true a0_0 a0_1 a0_2 l0_3) else (redactorref04_Encode.j0 k a0_2 a0_0 a0_1 a0_2 l0_3))))
theorem redactorref04_Encode.mono_l : ∀ k, (∀ y0 y1 y2 y3 y4, LeO (redactorref04_Encode.j0 k y0 y1 y2 y3 y4) (redactorref04_Encode.j0 (k + 1) y0 y1 y2 y3 y4)) ∧ (∀ y0 y1 y2 y3 y4, LeO (redactorref04_Encode.l0 k y0 y1 y2 y3 y4) (redactorref04_Encode.l0 (k + 1) y0 y1 y2 y3 y4)) ∧ (∀ y0 y1 y2 y3 y4 y5, LeO (redactorref04_Encode.j2 k y0 y1 y2 y3 y4 y5) (redactorref04_Encode.j2 (k + 1) y0 y1 y2 y3 y4 y5))
  | 0 => ⟨fun _ _ _ _ _ r h => by simp [redactorref04_Encode.j0] at h, fun _ _ _ _ _ r h => by simp [redactorref04_Encode.l0] at h, fun _ _ _ _ _ _ r h => by simp [redactorref04_Encode.j2] at h⟩
  | k + 1 => by
    obtain ⟨ih0, ih1, ih2⟩ := redactorref04_Encode.mono_l k
    refine ⟨?_, ?_, ?_⟩
    · intro y0 y1 y2 y3 y4
      unfold redactorref04_Encode.j0
      repeat' first
      | (with_reducible exact ih0 _ _ _ _ _)
      | (with_reducible exact ih1 _ _ _ _ _)
      | (with_reducible exact ih2 _ _ _ _ _ _)
      | (with_reducible exact redactorref02_Encode.mono _ _)
      | (with_reducible exact redactorref03_Encode.mono _ _ _)
      | (with_reducible exact redactorref04_latin.mono _ _)
      | (with_reducible exact LeO.refl _)
      | (with_reducible exact LeO.none _)
      | (with_reducible refine LeO.ite ?_ ?_)
      | (with_reducible refine LeO.bind ?_ (fun _ => ?_))
      | exact ih0 _ _ _ _ _
      | exact ih1 _ _ _ _ _
      | exact ih2 _ _ _ _ _ _
      | exact redactorref02_Encode.mono _ _
      | exact redactorref03_Encode.mono _ _ _
      | exact redactorref04_latin.mono _ _
      | exact LeO.none _
      | refine LeO.ite ?_ ?_
      | refine LeO.bind ?_ (fun _ => ?_)
    · intro y0 y1 y2 y3 y4
      unfold redactorref04_Encode.l0
      repeat' first
      | (with_reducible exact ih0 _ _ _ _ _)
      | (with_reducible exact ih1 _ _ _ _ _)
      | (with_reducible exact ih2 _ _ _ _ _ _)
      | (with_reducible exact redactorref02_Encode.mono _ _)
      | (with_reducible exact redactorref03_Encode.mono _ _ _)
      | (with_reducible exact redactorref04_latin.mono _ _)
      | (with_reducible exact LeO.refl _)
      | (with_reducible exact LeO.none _)
      | (with_reducible refine LeO.ite ?_ ?_)
      | (with_reducible refine LeO.bind ?_ (fun _ => ?_))
      | exact ih0 _ _ _ _ _
      | exact ih1 _ _ _ _ _
      | exact ih2 _ _ _ _ _ _
      | exact redactorref02_Encode.mono _ _
      | exact redactorref03_Encode.mono _ _ _
      | exact redactorref04_latin.mono _ _
      | exact LeO.none _
      | refine LeO.ite ?_ ?_
      | refine LeO.bind ?_ (fun _ => ?_)
    · intro y0 y1 y2 y3 y4 y5
      unfold redactorref04_Encode.j2
      repeat' first
      | (with_reducible exact ih0 _ _ _ _ _)
      | (with_reducible exact ih1 _ _ _ _ _)
      | (with_reducible exact ih2 _ _ _ _ _ _)
      | (with_reducible exact redactorref02_Encode.mono _ _)
      | (with_reducible exact redactorref03_Encode.mono _ _ _)
      | (with_reducible exact redactorref04_latin.mono _ _)
      | (with_reducible exact LeO.refl _)
      | (with_reducible exact LeO.none _)
      | (with_reducible refine LeO.ite ?_ ?_)
      | (with_reducible refine LeO.bind ?_ (fun _ => ?_))
      | exact ih0 _ _ _ _ _
      | exact ih1 _ _ _ _ _
      | exact ih2 _ _ _ _ _ _
      | exact redactorref02_Encode.mono _ _
      | exact redactorref03_Encode.mono _ _ _
      | exact redactorref04_latin.mono _ _
      | exact LeO.none _
      | refine LeO.ite ?_ ?_
      | refine LeO.bind ?_ (fun _ => ?_)
theorem redactorref04_Encode.mono : ∀ a0 a1 a2 a3 k, LeO (redactorref04_Encode.f k a0 a1 a2 a3) (redactorref04_Encode.f (k + 1) a0 a1 a2 a3) := by
  intro a0 a1 a2 a3 k
  obtain ⟨ih0, ih1, ih2⟩ := redactorref04_Encode.mono_l k
  unfold redactorref04_Encode.f
  repeat' first
      | (with_reducible exact ih0 _ _ _ _ _)
      | (with_reducible exact ih1 _ _ _ _ _)
      | (with_reducible exact ih2 _ _ _ _ _ _)
      | (with_reducible exact redactorref02_Encode.mono _ _)
      | (with_reducible exact redactorref03_Encode.mono _ _ _)
      | (with_reducible exact redactorref04_latin.mono _ _)
      | (with_reducible exact LeO.refl _)
      | (with_reducible exact LeO.none _)
      | (with_reducible refine LeO.ite ?_ ?_)
      | (with_reducible refine LeO.bind ?_ (fun _ => ?_))
      | exact ih0 _ _ _ _ _
      | exact ih1 _ _ _ _ _
      | exact ih2 _ _ _ _ _ _
      | exact redactorref02_Encode.mono _ _
      | exact redactorref03_Encode.mono _ _ _
      | exact redactorref04_latin.mono _ _
      | exact LeO.none _
      | refine LeO.ite ?_ ?_
      | refine LeO.bind ?_ (fun _ => ?_)
set_option maxHeartbeats 8000000 in
set_option maxRecDepth 100000 in
theorem redactorref04_Encode.calls (k : Nat) (a0_0 : Int) (a0_1 : Bool) (a0_2 : Bool) (A0_3 : Option Addr) (c0_3 : Nat) (l0_3 : List Int) (r1 : List Int) (r2 : Int) (w : World) (hr0_3 : Kd.C (Kd.int .i32) w A0_3 l0_3.length l0_3) (hc0_3 : l0_3.length ≤ c0_3) (h : redactorref04_Encode.f k a0_0 a0_1 a0_2 l0_3 = some (r1, r2)) :
    Calls Tryd.prog 31 #[.agg #[.int .u8 a0_0, .bool a0_1, .bool a0_2, .slice A0_3 l0_3.length c0_3]] w fun e w' => ∃ v0_ : Value, e = .returned (.tuple #[v0_, .int .i64 r2]) ∧ Kd.R (Kd.int .u8) 5 w' w.heap.size (fun _ => True) v0_ r1 ∧ Below w.heap.size w w' := by
  have hu29 := Tryd.underlying29
  have HR0_3 := Aside0.mk hr0_3
  have HC0_3 := Aside0.mk hc0_3
  clear hr0_3 hc0_3
  have HB := Aside0.mk (Below.refl w.heap.size w)
  have H : (if a0_0 < 1 then (redactorref04_Encode.j0 k true a0_0 a0_1 a0_2 l0_3) else (if a0_0 > 3 then (redactorref04_Encode.j0 k true a0_0 a0_1 a0_2 l0_3) else (if a0_0 = 2 then (redactorref04_Encode.j0 k false a0_0 a0_1 a0_2 l0_3) else (if a0_1 = true then (redactorref04_Encode.j0 k true a0_0 a0_1 a0_2 l0_3) else (redactorref04_Encode.j0 k a0_2 a0_0 a0_1 a0_2 l0_3))))) = some (r1, r2) := h
  clear h
  have HC2 := Aside0.mk H
  clear H
  go_enter Tryd.func31, Tryd.ntmps31
  go_upto_region 1 with (first | ((with_reducible refine gate_dst (N := 1) rfl ?_); refine box_event ?hg (N := 1) ?hd (cs := #[.int .u8 a0_0, .bool a0_1, .bool a0_2, .slice A0_3 l0_3.length c0_3]) (t := 29) ?hr ?_; (case hd => rfl); (case hg => rfl); (case hr => first | (go_simp; done) | (go_simp; rfl)); intro gb197 hg w3 hbox hb; have n0_ := Aside0.mk (below_step (by repeat (first | (with_reducible first | exact HB.out | apply below_alloc | apply pw_below_drewN | apply below_drew1) | exact HB.out)) hb); have n1_ := Aside0.mk (hbox); have n2_ := Aside0.mk ((by rw [hg]; exact (below_size (by repeat (first | (with_reducible first | exact HB.out | apply below_alloc | apply pw_below_drewN | apply below_drew1) | exact HB.out))) : w.heap.size ≤ gb197)); have n3_ := Aside0.mk ((by rw [hg]; exact (below_size (by repeat (first | (with_reducible first | exact HB.out | apply below_alloc | apply pw_below_drewN | apply below_drew1) | exact HB.out))) : w.heap.size ≤ gb197)); clear HB; have HB := n0_; have BK197 := n1_; have GW197 := n2_; have GE197 := n3_; clear n0_ n1_ n2_ n3_; clear hb hbox hg))
  (try simp only [Act.put, List.setIfInBounds_toArray, List.set_cons_zero, List.set_cons_succ])
  go_cut [28] (fun v28 wc => ∃ (kq : Nat) (x28_1 : Bool), v28 = .bool x28_1 ∧ Aside0 (redactorref04_Encode.j0 kq x28_1 a0_0 a0_1 a0_2 l0_3 = some (r1, r2)) ∧ Aside0 (kq ≤ k) ∧ Aside0 (wc.heap[gb197]? = some (.cells #[.int .u8 a0_0, .bool a0_1, .bool a0_2, (.slice A0_3 l0_3.length c0_3)] 29 (0, 0))) ∧ Aside0 (Below w.heap.size w wc))
  case first =>
    have H := HC2.out
    clear HC2
    by_cases c4 : a0_0 < 1
    · rw [if_pos c4] at H
      have c4b0 : decide (a0_0 < 1) = true := decide_eq_true c4
      clear c4
      (first | rw [c4b0] | (simp only [i64_w, i32_w]; rw [c4b0]) | skip)
      have H' := Aside0.mk H
      clear H
      have hcz5_0 : w3.cell? ⟨gb197, 0, none⟩ = some (.int .u8 a0_0) := (blk_cell BK197.out 0).trans rfl
      have hcz5_1 : w3.cell? ⟨gb197, 1, none⟩ = some (.bool a0_1) := (blk_cell BK197.out 1).trans rfl
      have hcz5_2 : w3.cell? ⟨gb197, 2, none⟩ = some (.bool a0_2) := (blk_cell BK197.out 2).trans rfl
      have hcz5_3 : w3.cell? ⟨gb197, 3, none⟩ = some (.slice A0_3 l0_3.length c0_3) := (blk_cell BK197.out 3).trans rfl
      have hfz5_0 := blk_frozen BK197.out 0
      have hfz5_1 := blk_frozen BK197.out 1
      have hfz5_2 := blk_frozen BK197.out 2
      have hfz5_3 := blk_frozen BK197.out 3
      go_wp2
      go_meet
      case rel => exact ⟨_, (true), (by first | rfl | (simp; done) | (simp [*]; done)), H', ⟨by first | omega | exact Nat.le_refl _⟩, ⟨by (with_reducible repeat (first | refine blk_drewN ?_ _ | refine blk_drew ?_ | refine blk_alloc ?_ _)); exact BK197.out⟩, ⟨by repeat (first | (with_reducible first | exact HB.out | apply below_alloc | apply pw_below_drewN | apply below_drew1 | refine below_set ?_ GE197.out) | exact HB.out)⟩⟩
    · rw [if_neg c4] at H
      have c4b0 : decide (a0_0 < 1) = false := decide_eq_false c4
      clear c4
      (first | rw [c4b0] | (simp only [i64_w, i32_w]; rw [c4b0]) | skip)
      by_cases c6 : a0_0 > 3
      · rw [if_pos c6] at H
        have c6b0 : decide (3 < a0_0) = true := decide_eq_true c6
        clear c6
        have H' := Aside0.mk H
        clear H
        have hcz7_0 : w3.cell? ⟨gb197, 0, none⟩ = some (.int .u8 a0_0) := (blk_cell BK197.out 0).trans rfl
        have hcz7_1 : w3.cell? ⟨gb197, 1, none⟩ = some (.bool a0_1) := (blk_cell BK197.out 1).trans rfl
        have hcz7_2 : w3.cell? ⟨gb197, 2, none⟩ = some (.bool a0_2) := (blk_cell BK197.out 2).trans rfl
        have hcz7_3 : w3.cell? ⟨gb197, 3, none⟩ = some (.slice A0_3 l0_3.length c0_3) := (blk_cell BK197.out 3).trans rfl
        have hfz7_0 := blk_frozen BK197.out 0
        have hfz7_1 := blk_frozen BK197.out 1
        have hfz7_2 := blk_frozen BK197.out 2
        have hfz7_3 := blk_frozen BK197.out 3
        go_wp2
        go_meet
        case rel => exact ⟨_, (true), (by first | rfl | (simp; done) | (simp [*]; done)), H', ⟨by first | omega | exact Nat.le_refl _⟩, ⟨by (with_reducible repeat (first | refine blk_drewN ?_ _ | refine blk_drew ?_ | refine blk_alloc ?_ _)); exact BK197.out⟩, ⟨by repeat (first | (with_reducible first | exact HB.out | apply below_alloc | apply pw_below_drewN | apply below_drew1 | refine below_set ?_ GE197.out) | exact HB.out)⟩⟩
      · rw [if_neg c6] at H
        have c6b0 : decide (3 < a0_0) = false := decide_eq_false c6
        clear c6
        by_cases c8 : a0_0 = 2
        · rw [if_pos c8] at H
          have c8b0 : (a0_0 == 2) = true := beq_iff_eq.mpr c8
          have c8b1 : (a0_0 != 2) = false := bne_eq_false_iff_eq.mpr c8
          clear c8
          have H' := Aside0.mk H
          clear H
          have hcz9_0 : w3.cell? ⟨gb197, 0, none⟩ = some (.int .u8 a0_0) := (blk_cell BK197.out 0).trans rfl
          have hcz9_1 : w3.cell? ⟨gb197, 1, none⟩ = some (.bool a0_1) := (blk_cell BK197.out 1).trans rfl
          have hcz9_2 : w3.cell? ⟨gb197, 2, none⟩ = some (.bool a0_2) := (blk_cell BK197.out 2).trans rfl
          have hcz9_3 : w3.cell? ⟨gb197, 3, none⟩ = some (.slice A0_3 l0_3.length c0_3) := (blk_cell BK197.out 3).trans rfl
          have hfz9_0 := blk_frozen BK197.out 0
          have hfz9_1 := blk_frozen BK197.out 1
          have hfz9_2 := blk_frozen BK197.out 2
          have hfz9_3 := blk_frozen BK197.out 3
          go_wp2
          go_meet
          case rel => exact ⟨_, (false), (by first | rfl | (simp; done) | (simp [*]; done)), H', ⟨by first | omega | exact Nat.le_refl _⟩, ⟨by (with_reducible repeat (first | refine blk_drewN ?_ _ | refine blk_drew ?_ | refine blk_alloc ?_ _)); exact BK197.out⟩, ⟨by repeat (first | (with_reducible first | exact HB.out | apply below_alloc | apply pw_below_drewN | apply below_drew1 | refine below_set ?_ GE197.out) | exact HB.out)⟩⟩
        · rw [if_neg c8] at H
          have c8b0 : (a0_0 == 2) = false := beq_eq_false_iff_ne.mpr c8
          have c8b1 : (a0_0 != 2) = true := bne_iff_ne.mpr c8
          by_cases c10 : a0_1 = true
          · subst c10
            have H1 : (redactorref04_Encode.j0 k true a0_0 true a0_2 l0_3) = some (r1, r2) := by rw [if_pos rfl] at H; exact H
            clear H
            have H := H1
            clear H1
            have H' := Aside0.mk H
            clear H
            have hcz11_0 : w3.cell? ⟨gb197, 0, none⟩ = some (.int .u8 a0_0) := (blk_cell BK197.out 0).trans rfl
            have hcz11_1 : w3.cell? ⟨gb197, 1, none⟩ = some (.bool true) := (blk_cell BK197.out 1).trans rfl
            have hcz11_2 : w3.cell? ⟨gb197, 2, none⟩ = some (.bool a0_2) := (blk_cell BK197.out 2).trans rfl
            have hcz11_3 : w3.cell? ⟨gb197, 3, none⟩ = some (.slice A0_3 l0_3.length c0_3) := (blk_cell BK197.out 3).trans rfl
            have hfz11_0 := blk_frozen BK197.out 0
            have hfz11_1 := blk_frozen BK197.out 1
            have hfz11_2 := blk_frozen BK197.out 2
            have hfz11_3 := blk_frozen BK197.out 3
            go_wp2
            go_meet
            case rel => exact ⟨_, (true), (by first | rfl | (simp; done) | (simp [*]; done)), H', ⟨by first | omega | exact Nat.le_refl _⟩, ⟨by (with_reducible repeat (first | refine blk_drewN ?_ _ | refine blk_drew ?_ | refine blk_alloc ?_ _)); exact BK197.out⟩, ⟨by repeat (first | (with_reducible first | exact HB.out | apply below_alloc | apply pw_below_drewN | apply below_drew1 | refine below_set ?_ GE197.out) | exact HB.out)⟩⟩
          · replace c10 := Bool.eq_false_iff.mpr c10
            subst c10
            have H1 : (redactorref04_Encode.j0 k a0_2 a0_0 false a0_2 l0_3) = some (r1, r2) := by rw [if_neg (show ¬ (false = true) by decide)] at H; exact H
            clear H
            have H := H1
            clear H1
            have H' := Aside0.mk H
            clear H
            have hcz12_0 : w3.cell? ⟨gb197, 0, none⟩ = some (.int .u8 a0_0) := (blk_cell BK197.out 0).trans rfl
            have hcz12_1 : w3.cell? ⟨gb197, 1, none⟩ = some (.bool false) := (blk_cell BK197.out 1).trans rfl
            have hcz12_2 : w3.cell? ⟨gb197, 2, none⟩ = some (.bool a0_2) := (blk_cell BK197.out 2).trans rfl
            have hcz12_3 : w3.cell? ⟨gb197, 3, none⟩ = some (.slice A0_3 l0_3.length c0_3) := (blk_cell BK197.out 3).trans rfl
            have hfz12_0 := blk_frozen BK197.out 0
            have hfz12_1 := blk_frozen BK197.out 1
            have hfz12_2 := blk_frozen BK197.out 2
            have hfz12_3 := blk_frozen BK197.out 3
            go_wp2
            go_meet
            case rel => exact ⟨_, (a0_2), (by first | rfl | (simp; done) | (simp [*]; done)), H', ⟨by first | omega | exact Nat.le_refl _⟩, ⟨by (with_reducible repeat (first | refine blk_drewN ?_ _ | refine blk_drew ?_ | refine blk_alloc ?_ _)); exact BK197.out⟩, ⟨by repeat (first | (with_reducible first | exact HB.out | apply below_alloc | apply pw_below_drewN | apply below_drew1 | refine below_set ?_ GE197.out) | exact HB.out)⟩⟩
  case rest =>
    clear HC2
    try clear c1
    try clear p2
    try clear c3
    try clear c4
    try clear c4b0
    try clear c6
    try clear c6b0
    try clear c8
    try clear c8b0
    try clear c8b1
    try clear c10
    try clear hcz11_0
    try clear hcz11_1
    try clear hcz11_2
    try clear hcz11_3
    try clear hcz12_0
    try clear hcz12_1
    try clear hcz12_2
    try clear hcz12_3
    try clear hcz5_0
    try clear hcz5_1
    try clear hcz5_2
    try clear hcz5_3
    try clear hcz7_0
    try clear hcz7_1
    try clear hcz7_2
    try clear hcz7_3
    try clear hcz9_0
    try clear hcz9_1
    try clear hcz9_2
    try clear hcz9_3
    try clear hfz11_0
    try clear hfz11_1
    try clear hfz11_2
    try clear hfz11_3
    try clear hfz12_0
    try clear hfz12_1
    try clear hfz12_2
    try clear hfz12_3
    try clear hfz5_0
    try clear hfz5_1
    try clear hfz5_2
    try clear hfz5_3
    try clear hfz7_0
    try clear hfz7_1
    try clear hfz7_2
    try clear hfz7_3
    try clear hfz9_0
    try clear hfz9_1
    try clear hfz9_2
    try clear hfz9_3
    obtain ⟨kq, x28_1, rfl, HA, HJ1, BK197, HB⟩ := hcut
    cases kq with
    | zero => exact absurd HA.out (by simp [redactorref04_Encode.j0])
    | succ kj1 =>
      have H := HA.out
      clear HA
      simp only [redactorref04_Encode.j0] at H
      by_cases c13 : x28_1 = true
      · subst c13
        have H1 : (some (([] : List Int), 1)) = some (r1, r2) := by rw [if_pos rfl] at H; exact H
        clear H
        have H := H1
        clear H1
        simp only [Option.some.injEq, Prod.mk.injEq] at H
        obtain ⟨rfl, rfl⟩ := H
        go_wp2
        go_ret2
        exact ⟨_, by first | rfl | (simp [errW_none, errW_some] <;> rfl) | (simp [*, errW_none, errW_some] <;> rfl), by first | exact Kd.R_nil _ _ _ _ _ | exact Kd.N_nil _ _ _ _ _ | exact Kd.V_nil _ _ _ _ _ | exact Kd.Q_nil _ _ _ _ _ | exact Kd.S_nil _ _ _ _ _, by repeat (first | (with_reducible first | exact HB.out | apply below_alloc | apply pw_below_drewN | apply below_drew1 | refine below_set ?_ GE197.out) | exact HB.out)⟩
      · replace c13 := Bool.eq_false_iff.mpr c13
        subst c13
        have H1 : (redactorref04_Encode.l0 kj1 0 a0_0 a0_1 a0_2 l0_3) = some (r1, r2) := by rw [if_neg (show ¬ (false = true) by decide)] at H; exact H
        clear H
        have H := H1
        clear H1
        have H' := Aside0.mk H
        clear H
        go_wp2
        go_loopg [4] kj1 (fun kq v4 w' => ∃ (x4_2 : Int), v4 = .int .i64 x4_2 ∧ Aside0 (redactorref04_Encode.l0 kq x4_2 a0_0 a0_1 a0_2 l0_3 = some (r1, r2)) ∧ Aside0 (kq ≤ kj1) ∧ Aside0 (w'.heap[gb197]? = some (.cells #[.int .u8 a0_0, .bool a0_1, .bool a0_2, (.slice A0_3 l0_3.length c0_3)] 29 (0, 0))) ∧ Aside0 (Below w.heap.size w w'))
        case atStart => exact ⟨(0), (by first | rfl | (simp; done) | (simp [*]; done)), H', ⟨Nat.le_refl _⟩, ⟨by (with_reducible repeat (first | refine blk_drewN ?_ _ | refine blk_drew ?_ | refine blk_alloc ?_ _)); exact BK197.out⟩, ⟨by repeat (first | (with_reducible first | exact HB.out | apply below_alloc | apply pw_below_drewN | apply below_drew1 | refine below_set ?_ GE197.out) | exact HB.out)⟩⟩
        case round =>
          clear H'
          try clear c1
          try clear p2
          try clear c3
          try clear c4
          try clear c4b0
          try clear c6
          try clear c6b0
          try clear c8
          try clear c8b0
          try clear c8b1
          try clear c10
          try clear c13
          try clear hcz11_0
          try clear hcz11_1
          try clear hcz11_2
          try clear hcz11_3
          try clear hcz12_0
          try clear hcz12_1
          try clear hcz12_2
          try clear hcz12_3
          try clear hcz5_0
          try clear hcz5_1
          try clear hcz5_2
          try clear hcz5_3
          try clear hcz7_0
          try clear hcz7_1
          try clear hcz7_2
          try clear hcz7_3
          try clear hcz9_0
          try clear hcz9_1
          try clear hcz9_2
          try clear hcz9_3
          try clear hfz11_0
          try clear hfz11_1
          try clear hfz11_2
          try clear hfz11_3
          try clear hfz12_0
          try clear hfz12_1
          try clear hfz12_2
          try clear hfz12_3
          try clear hfz5_0
          try clear hfz5_1
          try clear hfz5_2
          try clear hfz5_3
          try clear hfz7_0
          try clear hfz7_1
          try clear hfz7_2
          try clear hfz7_3
          try clear hfz9_0
          try clear hfz9_1
          try clear hfz9_2
          try clear hfz9_3
          try clear p2
          obtain ⟨x4_2, rfl, HA, HK2, BK197, HB⟩ := hrel
          cases gk with
          | zero => exact absurd HA.out (by simp [redactorref04_Encode.l0])
          | succ k2 =>
            have H := HA.out
            clear HA
            simp only [redactorref04_Encode.l0] at H
            by_cases c14 : x4_2 < (l0_3.length : Int)
            · rw [if_pos c14] at H
              have c14b0 : decide (x4_2 < (l0_3.length : Int)) = true := decide_eq_true c14
              clear c14
              by_cases c15 : 0 ≤ x4_2
              · rw [if_pos c15] at H
                have c15b0 : decide (0 ≤ x4_2) = true := decide_eq_true c15
                clear c15
                replace H := Option.bind_eq_some_iff.mp H
                obtain ⟨t199, A160, H⟩ := H
                replace H : (if t199 = true then (redactorref04_Encode.l0 k2 (wrap64 (x4_2 + 1)) a0_0 a0_1 a0_2 l0_3) else (some (([] : List Int), 10))) = some (r1, r2) := H
                have A16 := Aside0.mk A160
                clear A160
                by_cases c17 : t199 = true
                · subst c17
                  have H1 : (redactorref04_Encode.l0 k2 (wrap64 (x4_2 + 1)) a0_0 a0_1 a0_2 l0_3) = some (r1, r2) := by rw [if_pos rfl] at H; exact H
                  clear H
                  have H := H1
                  clear H1
                  have H' := Aside0.mk H
                  clear H
                  have hcz18_0 : wr.cell? ⟨gb197, 0, none⟩ = some (.int .u8 a0_0) := (blk_cell BK197.out 0).trans rfl
                  have hcz18_1 : wr.cell? ⟨gb197, 1, none⟩ = some (.bool a0_1) := (blk_cell BK197.out 1).trans rfl
                  have hcz18_2 : wr.cell? ⟨gb197, 2, none⟩ = some (.bool a0_2) := (blk_cell BK197.out 2).trans rfl
                  have hcz18_3 : wr.cell? ⟨gb197, 3, none⟩ = some (.slice A0_3 l0_3.length c0_3) := (blk_cell BK197.out 3).trans rfl
                  have hfz18_0 := blk_frozen BK197.out 0
                  have hfz18_1 := blk_frozen BK197.out 1
                  have hfz18_2 := blk_frozen BK197.out 2
                  have hfz18_3 := blk_frozen BK197.out 3
                  have p198 : 0 ≤ (x4_2 : Int) := of_decide_eq_true (by first | (with_reducible assumption) | assumption)
                  have q198 : x4_2 < (l0_3.length : Int) := of_decide_eq_true (by first | (with_reducible assumption) | assumption)
                  obtain ⟨ad198, e198, hx198_0⟩ := Kd.at_int HR0_3.out x4_2 p198 q198
                  cases e198
                  replace hx198_0 := (HB.out.cell (World.block_lt_of_cell? w _ hx198_0)).trans hx198_0
                  replace p198 := eq_true p198
                  replace q198 := eq_true q198
                  go_wp2_with (first | ((with_reducible refine gate_callee (f := 16) rfl ?_); refine goesL_ (some 41) rfl rfl Tryd.func16 (by kernel_rfl) rfl #[.int .i32 (rd l0_3 x4_2)] rfl (by (try simp only [List.map_toArray, List.map_cons, List.map_nil]); first | done | rfl | (simp only [List.length_drop, List.length_take]; rfl)) ?_; (with_reducible refine (redactorref01_Right.calls (rd l0_3 x4_2) true _ A16.out).mono ?_); rintro e w' ⟨rfl, ⟨nd, rfl⟩⟩; refine ⟨_, rfl, ?_⟩))
                  go_roundg k2
                  case measure => have := HJ1.out; have := HK2.out; omega
                  case rel => exact ⟨(wrap64 (x4_2 + 1)), (by first | rfl | (simp; done) | (simp [*]; done)), H', ⟨by have := HJ1.out; have := HK2.out; omega⟩, ⟨by (with_reducible repeat (first | refine blk_drewN ?_ _ | refine blk_drew ?_ | refine blk_alloc ?_ _)); exact BK197.out⟩, ⟨by repeat (first | (with_reducible first | exact HB.out | apply below_alloc | apply pw_below_drewN | apply below_drew1 | refine below_set ?_ GE197.out) | exact HB.out)⟩⟩
                · replace c17 := Bool.eq_false_iff.mpr c17
                  subst c17
                  have H1 : (some (([] : List Int), 10)) = some (r1, r2) := by rw [if_neg (show ¬ (false = true) by decide)] at H; exact H
                  clear H
                  have H := H1
                  clear H1
                  simp only [Option.some.injEq, Prod.mk.injEq] at H
                  obtain ⟨rfl, rfl⟩ := H
                  have hcz19_0 : wr.cell? ⟨gb197, 0, none⟩ = some (.int .u8 a0_0) := (blk_cell BK197.out 0).trans rfl
                  have hcz19_1 : wr.cell? ⟨gb197, 1, none⟩ = some (.bool a0_1) := (blk_cell BK197.out 1).trans rfl
                  have hcz19_2 : wr.cell? ⟨gb197, 2, none⟩ = some (.bool a0_2) := (blk_cell BK197.out 2).trans rfl
                  have hcz19_3 : wr.cell? ⟨gb197, 3, none⟩ = some (.slice A0_3 l0_3.length c0_3) := (blk_cell BK197.out 3).trans rfl
                  have hfz19_0 := blk_frozen BK197.out 0
                  have hfz19_1 := blk_frozen BK197.out 1
                  have hfz19_2 := blk_frozen BK197.out 2
                  have hfz19_3 := blk_frozen BK197.out 3
                  have p198 : 0 ≤ (x4_2 : Int) := of_decide_eq_true (by first | (with_reducible assumption) | assumption)
                  have q198 : x4_2 < (l0_3.length : Int) := of_decide_eq_true (by first | (with_reducible assumption) | assumption)
                  obtain ⟨ad198, e198, hx198_0⟩ := Kd.at_int HR0_3.out x4_2 p198 q198
                  cases e198
                  replace hx198_0 := (HB.out.cell (World.block_lt_of_cell? w _ hx198_0)).trans hx198_0
                  replace p198 := eq_true p198
                  replace q198 := eq_true q198
                  go_wp2_with (first | ((with_reducible refine gate_callee (f := 16) rfl ?_); refine goesL_ (some 41) rfl rfl Tryd.func16 (by kernel_rfl) rfl #[.int .i32 (rd l0_3 x4_2)] rfl (by (try simp only [List.map_toArray, List.map_cons, List.map_nil]); first | done | rfl | (simp only [List.length_drop, List.length_take]; rfl)) ?_; (with_reducible refine (redactorref01_Right.calls (rd l0_3 x4_2) false _ A16.out).mono ?_); rintro e w' ⟨rfl, ⟨nd, rfl⟩⟩; refine ⟨_, rfl, ?_⟩))
                  go_ret2
                  exact ⟨_, by first | rfl | (simp [errW_none, errW_some] <;> rfl) | (simp [*, errW_none, errW_some] <;> rfl), by first | exact Kd.R_nil _ _ _ _ _ | exact Kd.N_nil _ _ _ _ _ | exact Kd.V_nil _ _ _ _ _ | exact Kd.Q_nil _ _ _ _ _ | exact Kd.S_nil _ _ _ _ _, by repeat (first | (with_reducible first | exact HB.out | apply below_alloc | apply pw_below_drewN | apply below_drew1 | refine below_set ?_ GE197.out) | exact HB.out)⟩
              · rw [if_neg c15] at H
                exact absurd H (by simp)
            · rw [if_neg c14] at H
              have c14b0 : decide (x4_2 < (l0_3.length : Int)) = false := decide_eq_false c14
              clear c14
              by_cases c20 : a0_0 = 1
              · rw [if_pos c20] at H
                have c20b0 : (a0_0 == 1) = true := beq_iff_eq.mpr c20
                have c20b1 : (a0_0 != 1) = false := bne_eq_false_iff_eq.mpr c20
                clear c20
                replace H := Option.bind_eq_some_iff.mp H
                obtain ⟨⟨t200, t201⟩, A210, H⟩ := H
                replace H : (some (t200, t201)) = some (r1, r2) := H
                have A21 := Aside0.mk A210
                clear A210
                simp only [Option.some.injEq, Prod.mk.injEq] at H
                obtain ⟨rfl, rfl⟩ := H
                have hcz22_0 : wr.cell? ⟨gb197, 0, none⟩ = some (.int .u8 a0_0) := (blk_cell BK197.out 0).trans rfl
                have hcz22_1 : wr.cell? ⟨gb197, 1, none⟩ = some (.bool a0_1) := (blk_cell BK197.out 1).trans rfl
                have hcz22_2 : wr.cell? ⟨gb197, 2, none⟩ = some (.bool a0_2) := (blk_cell BK197.out 2).trans rfl
                have hcz22_3 : wr.cell? ⟨gb197, 3, none⟩ = some (.slice A0_3 l0_3.length c0_3) := (blk_cell BK197.out 3).trans rfl
                have hfz22_0 := blk_frozen BK197.out 0
                have hfz22_1 := blk_frozen BK197.out 1
                have hfz22_2 := blk_frozen BK197.out 2
                have hfz22_3 := blk_frozen BK197.out 3
                go_wp2_with (first | ((with_reducible refine gate_callee (f := 43) rfl ?_); refine goesL_ (some 48) rfl rfl Tryd.func43 (by kernel_rfl) rfl #[.slice A0_3 l0_3.length c0_3] rfl (by (try simp only [List.map_toArray, List.map_cons, List.map_nil]); first | done | rfl | (simp only [List.length_drop, List.length_take]; rfl)) ?_; (with_reducible refine (redactorref02_Encode.calls k2 _ _ l0_3 t200 t201 _ ?side1 ?side2 A21.out).mono ?_); (case side1 => repeat (first | exact (Kd.C_below HR0_3.out HB.out) | (with_reducible refine Kd.C_alloc ?_ _) | (with_reducible refine Kd.C_drewN ?_ _) | (with_reducible refine Kd.C_drew ?_))); (case side2 => exact HC0_3.out); rintro e w23 ⟨v202, rfl, ho0, hb⟩; refine ⟨_, rfl, ?_⟩; have n0_ := Aside0.mk (Kd.R_lower ho0 (below_size (by repeat (first | (with_reducible first | exact HB.out | apply below_alloc | apply pw_below_drewN | apply below_drew1 | refine below_set ?_ GE197.out) | exact HB.out)))); have n1_ := Aside0.mk (blk_below (g := gb197) (o := .cells #[.int .u8 a0_0, .bool a0_1, .bool a0_2, .slice A0_3 l0_3.length c0_3] 29 (0, 0)) (by (with_reducible repeat (first | refine blk_drewN ?_ _ | refine blk_drew ?_ | refine blk_alloc ?_ _)); exact BK197.out) hb); have n2_ := Aside0.mk (below_step (by repeat (first | (with_reducible first | exact HB.out | apply below_alloc | apply pw_below_drewN | apply below_drew1 | refine below_set ?_ GE197.out) | exact HB.out)) hb); clear BK197; clear HB; have HO203 := n0_; have BK197 := n1_; have HB := n2_; clear n0_ n1_ n2_; (try clear hb); (try clear hb2); (try clear hk); (try clear hi); (try clear ho0)))
                go_ret2
                exact ⟨_, by first | rfl | (simp [errW_none, errW_some] <;> rfl) | (simp [*, errW_none, errW_some] <;> rfl), by (with_reducible repeat (first | apply Kd.R_alloc | apply Kd.R_drewN | apply Kd.R_drew)); exact HO203.out, by repeat (first | (with_reducible first | exact HB.out | apply below_alloc | apply pw_below_drewN | apply below_drew1 | refine below_set ?_ GE197.out) | exact HB.out)⟩
              · rw [if_neg c20] at H
                have c20b0 : (a0_0 == 1) = false := beq_eq_false_iff_ne.mpr c20
                have c20b1 : (a0_0 != 1) = true := bne_iff_ne.mpr c20
                by_cases c24 : a0_0 = 3
                · rw [if_pos c24] at H
                  have c24b0 : (a0_0 == 3) = true := beq_iff_eq.mpr c24
                  have c24b1 : (a0_0 != 3) = false := bne_eq_false_iff_eq.mpr c24
                  clear c24
                  replace H := Option.bind_eq_some_iff.mp H
                  obtain ⟨⟨t204, t205⟩, A250, H⟩ := H
                  replace H : (some (t204, t205)) = some (r1, r2) := H
                  have A25 := Aside0.mk A250
                  clear A250
                  simp only [Option.some.injEq, Prod.mk.injEq] at H
                  obtain ⟨rfl, rfl⟩ := H
                  have hcz26_0 : wr.cell? ⟨gb197, 0, none⟩ = some (.int .u8 a0_0) := (blk_cell BK197.out 0).trans rfl
                  have hcz26_1 : wr.cell? ⟨gb197, 1, none⟩ = some (.bool a0_1) := (blk_cell BK197.out 1).trans rfl
                  have hcz26_2 : wr.cell? ⟨gb197, 2, none⟩ = some (.bool a0_2) := (blk_cell BK197.out 2).trans rfl
                  have hcz26_3 : wr.cell? ⟨gb197, 3, none⟩ = some (.slice A0_3 l0_3.length c0_3) := (blk_cell BK197.out 3).trans rfl
                  have hfz26_0 := blk_frozen BK197.out 0
                  have hfz26_1 := blk_frozen BK197.out 1
                  have hfz26_2 := blk_frozen BK197.out 2
                  have hfz26_3 := blk_frozen BK197.out 3
                  go_wp2_with (first | ((with_reducible refine gate_callee (f := 44) rfl ?_); refine goesL_ (some 56) rfl rfl Tryd.func44 (by kernel_rfl) rfl #[.slice A0_3 l0_3.length c0_3] rfl (by (try simp only [List.map_toArray, List.map_cons, List.map_nil]); first | done | rfl | (simp only [List.length_drop, List.length_take]; rfl)) ?_; (with_reducible refine (redactorref04_latin.calls k2 _ _ l0_3 t204 t205 _ ?side1 ?side2 A25.out).mono ?_); (case side1 => repeat (first | exact (Kd.C_below HR0_3.out HB.out) | (with_reducible refine Kd.C_alloc ?_ _) | (with_reducible refine Kd.C_drewN ?_ _) | (with_reducible refine Kd.C_drew ?_))); (case side2 => exact HC0_3.out); rintro e w27 ⟨v206, rfl, ho0, hb⟩; refine ⟨_, rfl, ?_⟩; have n0_ := Aside0.mk (Kd.R_lower ho0 (below_size (by repeat (first | (with_reducible first | exact HB.out | apply below_alloc | apply pw_below_drewN | apply below_drew1 | refine below_set ?_ GE197.out) | exact HB.out)))); have n1_ := Aside0.mk (blk_below (g := gb197) (o := .cells #[.int .u8 a0_0, .bool a0_1, .bool a0_2, .slice A0_3 l0_3.length c0_3] 29 (0, 0)) (by (with_reducible repeat (first | refine blk_drewN ?_ _ | refine blk_drew ?_ | refine blk_alloc ?_ _)); exact BK197.out) hb); have n2_ := Aside0.mk (below_step (by repeat (first | (with_reducible first | exact HB.out | apply below_alloc | apply pw_below_drewN | apply below_drew1 | refine below_set ?_ GE197.out) | exact HB.out)) hb); clear BK197; clear HB; have HO207 := n0_; have BK197 := n1_; have HB := n2_; clear n0_ n1_ n2_; (try clear hb); (try clear hb2); (try clear hk); (try clear hi); (try clear ho0)))
                  go_ret2
                  exact ⟨_, by first | rfl | (simp [errW_none, errW_some] <;> rfl) | (simp [*, errW_none, errW_some] <;> rfl), by (with_reducible repeat (first | apply Kd.R_alloc | apply Kd.R_drewN | apply Kd.R_drew)); exact HO207.out, by repeat (first | (with_reducible first | exact HB.out | apply below_alloc | apply pw_below_drewN | apply below_drew1 | refine below_set ?_ GE197.out) | exact HB.out)⟩
                · rw [if_neg c24] at H
                  have c24b0 : (a0_0 == 3) = false := beq_eq_false_iff_ne.mpr c24
                  have c24b1 : (a0_0 != 3) = true := bne_iff_ne.mpr c24
                  have HC28 := Aside0.mk H
                  clear H
                  have hcz29_0 : wr.cell? ⟨gb197, 0, none⟩ = some (.int .u8 a0_0) := (blk_cell BK197.out 0).trans rfl
                  have hcz29_1 : wr.cell? ⟨gb197, 1, none⟩ = some (.bool a0_1) := (blk_cell BK197.out 1).trans rfl
                  have hcz29_2 : wr.cell? ⟨gb197, 2, none⟩ = some (.bool a0_2) := (blk_cell BK197.out 2).trans rfl
                  have hcz29_3 : wr.cell? ⟨gb197, 3, none⟩ = some (.slice A0_3 l0_3.length c0_3) := (blk_cell BK197.out 3).trans rfl
                  have hfz29_0 := blk_frozen BK197.out 0
                  have hfz29_1 := blk_frozen BK197.out 1
                  have hfz29_2 := blk_frozen BK197.out 2
                  have hfz29_3 := blk_frozen BK197.out 3
                  go_upto_region 13 with (fail)
                  go_cut [64] (fun v64 wc => ∃ (kq : Nat) (x64_27 : Bool), v64 = .bool x64_27 ∧ Aside0 (redactorref04_Encode.j2 kq ([] : List Int) x64_27 a0_0 a0_1 a0_2 l0_3 = some (r1, r2)) ∧ Aside0 (kq ≤ k2) ∧ Aside0 (Kd.R (Kd.int .u8) 5 wc w.heap.size (fun _ => True) (.slice none 0 0) ([] : List Int)) ∧ Aside0 (wc.heap[gb197]? = some (.cells #[.int .u8 a0_0, .bool a0_1, .bool a0_2, (.slice A0_3 l0_3.length c0_3)] 29 (0, 0))) ∧ Aside0 (Below w.heap.size w wc))
                  case first =>
                    have H := HC28.out
                    clear HC28
                    by_cases c30 : a0_2 = true
                    · subst c30
                      have H1 : (redactorref04_Encode.j2 k2 ([] : List Int) a0_1 a0_0 a0_1 true l0_3) = some (r1, r2) := by rw [if_pos rfl] at H; exact H
                      clear H
                      have H := H1
                      clear H1
                      have H' := Aside0.mk H
                      clear H
                      have hcz31_0 : wr.cell? ⟨gb197, 0, none⟩ = some (.int .u8 a0_0) := (blk_cell BK197.out 0).trans rfl
                      have hcz31_1 : wr.cell? ⟨gb197, 1, none⟩ = some (.bool a0_1) := (blk_cell BK197.out 1).trans rfl
                      have hcz31_2 : wr.cell? ⟨gb197, 2, none⟩ = some (.bool true) := (blk_cell BK197.out 2).trans rfl
                      have hcz31_3 : wr.cell? ⟨gb197, 3, none⟩ = some (.slice A0_3 l0_3.length c0_3) := (blk_cell BK197.out 3).trans rfl
                      have hfz31_0 := blk_frozen BK197.out 0
                      have hfz31_1 := blk_frozen BK197.out 1
                      have hfz31_2 := blk_frozen BK197.out 2
                      have hfz31_3 := blk_frozen BK197.out 3
                      go_wp2
                      go_meet
                      case rel => exact ⟨_, (a0_1), (by first | rfl | (simp; done) | (simp [*]; done)), H', ⟨by have := HJ1.out; have := HK2.out; first | omega | exact Nat.le_refl _⟩, ⟨by first | exact Kd.R_nil _ _ _ _ _ | exact Kd.N_nil _ _ _ _ _ | exact Kd.V_nil _ _ _ _ _ | exact Kd.Q_nil _ _ _ _ _ | exact Kd.S_nil _ _ _ _ _⟩, ⟨by (with_reducible repeat (first | refine blk_drewN ?_ _ | refine blk_drew ?_ | refine blk_alloc ?_ _)); exact BK197.out⟩, ⟨by repeat (first | (with_reducible first | exact HB.out | apply below_alloc | apply pw_below_drewN | apply below_drew1 | refine below_set ?_ GE197.out) | exact HB.out)⟩⟩
                    · replace c30 := Bool.eq_false_iff.mpr c30
                      subst c30
                      have H1 : (redactorref04_Encode.j2 k2 ([] : List Int) false a0_0 a0_1 false l0_3) = some (r1, r2) := by rw [if_neg (show ¬ (false = true) by decide)] at H; exact H
                      clear H
                      have H := H1
                      clear H1
                      have H' := Aside0.mk H
                      clear H
                      have hcz32_0 : wr.cell? ⟨gb197, 0, none⟩ = some (.int .u8 a0_0) := (blk_cell BK197.out 0).trans rfl
                      have hcz32_1 : wr.cell? ⟨gb197, 1, none⟩ = some (.bool a0_1) := (blk_cell BK197.out 1).trans rfl
                      have hcz32_2 : wr.cell? ⟨gb197, 2, none⟩ = some (.bool false) := (blk_cell BK197.out 2).trans rfl
                      have hcz32_3 : wr.cell? ⟨gb197, 3, none⟩ = some (.slice A0_3 l0_3.length c0_3) := (blk_cell BK197.out 3).trans rfl
                      have hfz32_0 := blk_frozen BK197.out 0
                      have hfz32_1 := blk_frozen BK197.out 1
                      have hfz32_2 := blk_frozen BK197.out 2
                      have hfz32_3 := blk_frozen BK197.out 3
                      go_wp2
                      go_meet
                      case rel => exact ⟨_, (false), (by first | rfl | (simp; done) | (simp [*]; done)), H', ⟨by have := HJ1.out; have := HK2.out; first | omega | exact Nat.le_refl _⟩, ⟨by first | exact Kd.R_nil _ _ _ _ _ | exact Kd.N_nil _ _ _ _ _ | exact Kd.V_nil _ _ _ _ _ | exact Kd.Q_nil _ _ _ _ _ | exact Kd.S_nil _ _ _ _ _⟩, ⟨by (with_reducible repeat (first | refine blk_drewN ?_ _ | refine blk_drew ?_ | refine blk_alloc ?_ _)); exact BK197.out⟩, ⟨by repeat (first | (with_reducible first | exact HB.out | apply below_alloc | apply pw_below_drewN | apply below_drew1 | refine below_set ?_ GE197.out) | exact HB.out)⟩⟩
                  case rest =>
                    clear HC28
                    try clear c1
                    try clear p1
                    try clear q1
                    try clear hx1
                    try clear c2
                    try clear p2
                    try clear c3
                    try clear c4
                    try clear c4b0
                    try clear c6
                    try clear c6b0
                    try clear p6
                    try clear c8
                    try clear c8b0
                    try clear c8b1
                    try clear c10
                    try clear c13
                    try clear c14
                    try clear c14b0
                    try clear c15
                    try clear c15b0
                    try clear c16
                    try clear c17
                    try clear p19
                    try clear q19
                    try clear hx19
                    try clear c20
                    try clear c20b0
                    try clear c20b1
                    try clear c24
                    try clear c24b0
                    try clear c24b1
                    try clear c30
                    try clear c31
                    try clear hcz11_0
                    try clear hcz11_1
                    try clear hcz11_2
                    try clear hcz11_3
                    try clear hcz12_0
                    try clear hcz12_1
                    try clear hcz12_2
                    try clear hcz12_3
                    try clear hcz18_0
                    try clear hcz18_1
                    try clear hcz18_2
                    try clear hcz18_3
                    try clear hcz19_0
                    try clear hcz19_1
                    try clear hcz19_2
                    try clear hcz19_3
                    try clear hcz22_0
                    try clear hcz22_1
                    try clear hcz22_2
                    try clear hcz22_3
                    try clear hcz26_0
                    try clear hcz26_1
                    try clear hcz26_2
                    try clear hcz26_3
                    try clear hcz29_0
                    try clear hcz29_1
                    try clear hcz29_2
                    try clear hcz29_3
                    try clear hcz31_0
                    try clear hcz31_1
                    try clear hcz31_2
                    try clear hcz31_3
                    try clear hcz32_0
                    try clear hcz32_1
                    try clear hcz32_2
                    try clear hcz32_3
                    try clear hcz5_0
                    try clear hcz5_1
                    try clear hcz5_2
                    try clear hcz5_3
                    try clear hcz7_0
                    try clear hcz7_1
                    try clear hcz7_2
                    try clear hcz7_3
                    try clear hcz9_0
                    try clear hcz9_1
                    try clear hcz9_2
                    try clear hcz9_3
                    try clear hfz11_0
                    try clear hfz11_1
                    try clear hfz11_2
                    try clear hfz11_3
                    try clear hfz12_0
                    try clear hfz12_1
                    try clear hfz12_2
                    try clear hfz12_3
                    try clear hfz18_0
                    try clear hfz18_1
                    try clear hfz18_2
                    try clear hfz18_3
                    try clear hfz19_0
                    try clear hfz19_1
                    try clear hfz19_2
                    try clear hfz19_3
                    try clear hfz22_0
                    try clear hfz22_1
                    try clear hfz22_2
                    try clear hfz22_3
                    try clear hfz26_0
                    try clear hfz26_1
                    try clear hfz26_2
                    try clear hfz26_3
                    try clear hfz29_0
                    try clear hfz29_1
                    try clear hfz29_2
                    try clear hfz29_3
                    try clear hfz31_0
                    try clear hfz31_1
                    try clear hfz31_2
                    try clear hfz31_3
                    try clear hfz32_0
                    try clear hfz32_1
                    try clear hfz32_2
                    try clear hfz32_3
                    try clear hfz5_0
                    try clear hfz5_1
                    try clear hfz5_2
                    try clear hfz5_3
                    try clear hfz7_0
                    try clear hfz7_1
                    try clear hfz7_2
                    try clear hfz7_3
                    try clear hfz9_0
                    try clear hfz9_1
                    try clear hfz9_2
                    try clear hfz9_3
                    try clear hx198_0
                    try clear p198
                    try clear p2
                    try clear q198
                    obtain ⟨kq, x64_27, rfl, HA, HJ27, HO_5, BK197, HB⟩ := hcut
                    cases kq with
                    | zero => exact absurd HA.out (by simp [redactorref04_Encode.j2])
                    | succ kj27 =>
                      have H := HA.out
                      clear HA
                      simp only [redactorref04_Encode.j2] at H
                      by_cases c33 : x64_27 = true
                      · subst c33
                        have H1 : ((some (([254, 255] : List Int) : List Int)).bind fun y208 => (if a0_2 = true then (if a0_1 = true then ((redactorref03_Encode.f kj27 l0_3 a0_1).bind fun bt211 => (if y208.length + bt211.1.length < 140737488355328 then (some ((y208 ++ bt211.1), 0)) else (none))) else ((some (([255, 254] : List Int) : List Int)).bind fun y218 => ((redactorref03_Encode.f kj27 l0_3 a0_1).bind fun bt221 => (if y218.length + bt221.1.length < 140737488355328 then (some ((y218 ++ bt221.1), 0)) else (none))))) else ((redactorref03_Encode.f kj27 l0_3 a0_1).bind fun bt228 => (if y208.length + bt228.1.length < 140737488355328 then (some ((y208 ++ bt228.1), 0)) else (none))))) = some (r1, r2) := by rw [if_pos rfl] at H; exact H
                        clear H
                        have H := H1
                        clear H1
                        obtain ⟨y208, hy208⟩ : ∃ y_ : List Int, y_ = (([254, 255] : List Int)) := ⟨_, rfl⟩
                        replace H : (if a0_2 = true then (if a0_1 = true then ((redactorref03_Encode.f kj27 l0_3 a0_1).bind fun bt211 => (if y208.length + bt211.1.length < 140737488355328 then (some ((y208 ++ bt211.1), 0)) else (none))) else ((some (([255, 254] : List Int) : List Int)).bind fun y218 => ((redactorref03_Encode.f kj27 l0_3 a0_1).bind fun bt221 => (if y218.length + bt221.1.length < 140737488355328 then (some ((y218 ++ bt221.1), 0)) else (none))))) else ((redactorref03_Encode.f kj27 l0_3 a0_1).bind fun bt228 => (if y208.length + bt228.1.length < 140737488355328 then (some ((y208 ++ bt228.1), 0)) else (none)))) = some (r1, r2) := by first | (rw [hy208]; with_reducible exact H) | (have H2_ := (Option.bind_some _ _).symm.trans H; rw [hy208]; with_reducible exact H2_) | (have H2_ := (Option.bind_some _ _).symm.trans H; with_reducible exact H2_) | with_reducible exact H | (rw [hy208]; exact H) | exact H
                        have Ny208 := Aside0.mk hy208
                        clear hy208
                        by_cases c34 : a0_2 = true
                        · subst c34
                          have H1 : (if a0_1 = true then ((redactorref03_Encode.f kj27 l0_3 a0_1).bind fun bt211 => (if y208.length + bt211.1.length < 140737488355328 then (some ((y208 ++ bt211.1), 0)) else (none))) else ((some (([255, 254] : List Int) : List Int)).bind fun y218 => ((redactorref03_Encode.f kj27 l0_3 a0_1).bind fun bt221 => (if y218.length + bt221.1.length < 140737488355328 then (some ((y218 ++ bt221.1), 0)) else (none))))) = some (r1, r2) := by rw [if_pos rfl] at H; exact H
                          clear H
                          have H := H1
                          clear H1
                          by_cases c35 : a0_1 = true
                          · subst c35
                            have H1 : ((redactorref03_Encode.f kj27 l0_3 true).bind fun bt211 => (if y208.length + bt211.1.length < 140737488355328 then (some ((y208 ++ bt211.1), 0)) else (none))) = some (r1, r2) := by rw [if_pos rfl] at H; exact H
                            clear H
                            have H := H1
                            clear H1
                            replace H := Option.bind_eq_some_iff.mp H
                            obtain ⟨⟨t211, t212⟩, A360, H⟩ := H
                            replace H : (if y208.length + t211.length < 140737488355328 then (some ((y208 ++ t211), 0)) else (none)) = some (r1, r2) := H
                            have A36 := Aside0.mk A360
                            clear A360
                            by_cases c37 : y208.length + t211.length < 140737488355328
                            · rw [if_pos c37] at H
                              have LMc37 := Aside0.mk c37
                              clear c37
                              obtain ⟨y215, hy215⟩ : ∃ y_ : List Int, y_ = (y208 ++ t211) := ⟨_, rfl⟩
                              replace H : (some (y215, 0)) = some (r1, r2) := by first | (rw [hy215]; with_reducible exact H) | (have H2_ := (Option.bind_some _ _).symm.trans H; rw [hy215]; with_reducible exact H2_) | (have H2_ := (Option.bind_some _ _).symm.trans H; with_reducible exact H2_) | with_reducible exact H | (rw [hy215]; exact H) | exact H
                              have Ny215 := Aside0.mk hy215
                              clear hy215
                              simp only [Option.some.injEq, Prod.mk.injEq] at H
                              obtain ⟨rfl, rfl⟩ := H
                              go_wp2_with (first | ((with_reducible refine gate_dst (N := 65) rfl ?_); refine Kd.R_lit (Kd.int .u8) _ 5 ?hg (N := 65) ?hd (xs := ([254, 255] : List Int)) (inner := [.int .u8 254, .int .u8 255]) (ok := fun _ => True) (okp := fun _ => True) ?hr ?hp (fun _ hk => hk) trivial (Below.refl _ _) (Nat.le_refl _) (by simp) ?_; (case hd => rfl); (case hg => rfl); (case hr => first | (go_simp; done) | (go_simp; rfl)); (case hp => exact (Reps.one (show Kd.M (Kd.int .u8) _ _ _ 254 [.int .u8 254] from rfl) (Reps.one (show Kd.M (Kd.int .u8) _ _ _ 255 [.int .u8 255] from rfl) (Reps.none _ _)))); intro v209 w38 ho39 hb hg_ hnew_; clear hg_ hnew_; (first | rw [← Ny208.out] at ho39 | (simp only [Int.reduceToNat] at ho39; rw [← Ny208.out] at ho39)); have n0_ := Aside0.mk (Kd.R_elder' (by (with_reducible repeat (first | apply Kd.R_alloc | apply Kd.R_drewN | apply Kd.R_drew)); exact HO_5.out) (Kd.R_base ho39) hb); have n1_ := Aside0.mk (Kd.R_lower (Kd.R_new' ho39 (Kd.R_lt (by (with_reducible repeat (first | apply Kd.R_alloc | apply Kd.R_drewN | apply Kd.R_drew)); exact HO_5.out))) (below_size (by repeat (first | (with_reducible first | exact HB.out | apply below_alloc | apply pw_below_drewN | apply below_drew1 | refine below_set ?_ GE197.out) | exact HB.out)))); have n2_ := Aside0.mk (blk_below (g := gb197) (o := .cells #[.int .u8 a0_0, .bool true, .bool true, .slice A0_3 l0_3.length c0_3] 29 (0, 0)) (by (with_reducible repeat (first | refine blk_drewN ?_ _ | refine blk_drew ?_ | refine blk_alloc ?_ _)); exact BK197.out) hb); have n3_ := Aside0.mk (below_step (by repeat (first | (with_reducible first | exact HB.out | apply below_alloc | apply pw_below_drewN | apply below_drew1 | refine below_set ?_ GE197.out) | exact HB.out)) hb); clear HO_5; clear BK197; clear HB; have HO_5 := n0_; have HO210 := n1_; have BK197 := n2_; have HB := n3_; clear n0_ n1_ n2_ n3_; clear hb ho39; have hcz40_0 : w38.cell? ⟨gb197, 0, none⟩ = some (.int .u8 a0_0) := (blk_cell BK197.out 0).trans rfl; have hcz40_1 : w38.cell? ⟨gb197, 1, none⟩ = some (.bool true) := (blk_cell BK197.out 1).trans rfl; have hcz40_2 : w38.cell? ⟨gb197, 2, none⟩ = some (.bool true) := (blk_cell BK197.out 2).trans rfl; have hcz40_3 : w38.cell? ⟨gb197, 3, none⟩ = some (.slice A0_3 l0_3.length c0_3) := (blk_cell BK197.out 3).trans rfl; have hfz40_0 := blk_frozen BK197.out 0; have hfz40_1 := blk_frozen BK197.out 1; have hfz40_2 := blk_frozen BK197.out 2; have hfz40_3 := blk_frozen BK197.out 3) | ((with_reducible refine gate_callee (f := 45) rfl ?_); refine goesL_ (some 79) rfl rfl Tryd.func45 (by kernel_rfl) rfl #[.slice A0_3 l0_3.length c0_3, .bool true] rfl (by (try simp only [List.map_toArray, List.map_cons, List.map_nil]); first | done | rfl | (simp only [List.length_drop, List.length_take]; rfl)) ?_; (with_reducible refine (redactorref03_Encode.calls kj27 _ _ l0_3 true t211 t212 _ ?side1 ?side2 A36.out).mono ?_); (case side1 => repeat (first | exact (Kd.C_below HR0_3.out HB.out) | (with_reducible refine Kd.C_alloc ?_ _) | (with_reducible refine Kd.C_drewN ?_ _) | (with_reducible refine Kd.C_drew ?_))); (case side2 => exact HC0_3.out); rintro e w41 ⟨v213, rfl, ho0, hb⟩; refine ⟨_, rfl, ?_⟩; have n0_ := Aside0.mk (Kd.R_elder' (by (with_reducible repeat (first | apply Kd.R_alloc | apply Kd.R_drewN | apply Kd.R_drew)); exact HO_5.out) (Kd.R_base ho0) hb); have n1_ := Aside0.mk (Kd.R_elder' (by (with_reducible repeat (first | apply Kd.R_alloc | apply Kd.R_drewN | apply Kd.R_drew)); exact HO210.out) (Kd.R_base ho0) hb); have n2_ := Aside0.mk (Kd.R_lower (Kd.R_new' (Kd.R_new' ho0 (Kd.R_lt (by (with_reducible repeat (first | apply Kd.R_alloc | apply Kd.R_drewN | apply Kd.R_drew)); exact HO_5.out))) (Kd.R_lt (by (with_reducible repeat (first | apply Kd.R_alloc | apply Kd.R_drewN | apply Kd.R_drew)); exact HO210.out))) (below_size (by repeat (first | (with_reducible first | exact HB.out | apply below_alloc | apply pw_below_drewN | apply below_drew1 | refine below_set ?_ GE197.out) | exact HB.out)))); have n3_ := Aside0.mk (blk_below (g := gb197) (o := .cells #[.int .u8 a0_0, .bool true, .bool true, .slice A0_3 l0_3.length c0_3] 29 (0, 0)) (by (with_reducible repeat (first | refine blk_drewN ?_ _ | refine blk_drew ?_ | refine blk_alloc ?_ _)); exact BK197.out) hb); have n4_ := Aside0.mk (below_step (by repeat (first | (with_reducible first | exact HB.out | apply below_alloc | apply pw_below_drewN | apply below_drew1 | refine below_set ?_ GE197.out) | exact HB.out)) hb); clear HO_5; clear HO210; clear BK197; clear HB; have HO_5 := n0_; have HO210 := n1_; have HO214 := n2_; have BK197 := n3_; have HB := n4_; clear n0_ n1_ n2_ n3_ n4_; (try clear hb); (try clear hb2); (try clear hk); (try clear hi); (try clear ho0); obtain ⟨Ao43, co43, eo43⟩ := Kd.R_slice HO214.out; subst eo43) | ((with_reducible refine gate_builtin (b := .append) (xs := #[.tmp 82, .tmp 83]) rfl ?_); at_builtin; refine Kd.R_append_rows (Kd.int .u8) (w0 := w) w.heap.size rfl (.tmp 82) (.tmp 83) 22 5 (.int .u8 0) 1 rfl Tryd.underlying22 info5 rfl (by decide) (by omega) v209 y208 t211 _ _ _ (fun k_ => some k_ ≠ (.slice none 0 0 : Value).ownBlock ∧ some k_ ≠ (.slice Ao43 t211.length co43 : Value).ownBlock) (fun _ => False) rfl rfl ?aO ?aR (fun _ _ h => h) (fun _ h => h.elim) ?aF ?aB ?aS ?aL ?_; (case aR => repeat (first | exact (Kd.R_reads' HO214.out).2.2 | (with_reducible refine Kd.C_alloc ?_ _) | (with_reducible refine Kd.C_drewN ?_ _) | (with_reducible refine Kd.C_drew ?_))); (case aB => exact (by repeat (first | (with_reducible first | exact HB.out | apply below_alloc | apply pw_below_drewN | apply below_drew1 | refine below_set ?_ GE197.out) | exact HB.out))); (case aF => exact (fun k_ hk => ⟨Kd.fresh' (Kd.R_lt (by (with_reducible repeat (first | apply Kd.R_alloc | apply Kd.R_drewN | apply Kd.R_drew)); exact HO_5.out)) k_ hk, Kd.fresh' (Kd.R_lt (by (with_reducible repeat (first | apply Kd.R_alloc | apply Kd.R_drewN | apply Kd.R_drew)); exact HO214.out)) k_ hk⟩)); (case aO => exact (by (with_reducible repeat (first | apply Kd.R_alloc | apply Kd.R_drewN | apply Kd.R_drew)); exact Kd.R_mono HO210.out (fun _ hk => ⟨hk.1.2, hk.2⟩))); (case aS => exact (below_size (by repeat (first | (with_reducible first | exact HB.out | apply below_alloc | apply pw_below_drewN | apply below_drew1 | refine below_set ?_ GE197.out) | exact HB.out)))); (case aL => have := LMc37.out; omega); intro v216 w42 ho hb hg hat; rw [← Ny215.out] at ho; have n0_ := Aside0.mk (Kd.R_after (ok := (fun k_ => some k_ ≠ (.slice Ao43 t211.length co43 : Value).ownBlock)) (by (with_reducible repeat (first | apply Kd.R_alloc | apply Kd.R_drewN | apply Kd.R_drew)); exact Kd.R_mono HO_5.out (fun _ hk => ⟨hk.2, hk.1.2⟩)) hg hat); have n1_ := Aside0.mk (blk_grown (g := gb197) (o := .cells #[.int .u8 a0_0, .bool true, .bool true, .slice A0_3 l0_3.length c0_3] 29 (0, 0)) (by (with_reducible repeat (first | refine blk_drewN ?_ _ | refine blk_drew ?_ | refine blk_alloc ?_ _)); exact BK197.out) hg (Kd.R_ne HO210.out BK197.out (by decide))); have n2_ := Aside0.mk (Kd.R_after (ok := (fun k_ => some k_ ≠ (.slice none 0 0 : Value).ownBlock)) (by (with_reducible repeat (first | apply Kd.R_alloc | apply Kd.R_drewN | apply Kd.R_drew)); exact Kd.R_mono HO214.out (fun _ hk => ⟨hk.1.2, hk.2⟩)) hg hat); have n3_ := Aside0.mk (hb); have n4_ := Aside0.mk (ho); clear HO_5; clear BK197; clear HO214; clear HB; clear HO210; have HO_5 := n0_; have BK197 := n1_; have HO214 := n2_; have HB := n3_; have HO217 := n4_; clear n0_ n1_ n2_ n3_ n4_; clear ho hb hg hat))
                              go_ret2
                              exact ⟨_, by first | rfl | (simp [errW_none, errW_some] <;> rfl) | (simp [*, errW_none, errW_some] <;> rfl), by (with_reducible repeat (first | apply Kd.R_alloc | apply Kd.R_drewN | apply Kd.R_drew)); exact Kd.R_mono HO217.out (fun _ hk => trivial), by repeat (first | (with_reducible first | exact HB.out | apply below_alloc | apply pw_below_drewN | apply below_drew1 | refine below_set ?_ GE197.out) | exact HB.out)⟩
                            · rw [if_neg c37] at H
                              exact absurd H (by simp)
                          · replace c35 := Bool.eq_false_iff.mpr c35
                            subst c35
                            have H1 : ((some (([255, 254] : List Int) : List Int)).bind fun y218 => ((redactorref03_Encode.f kj27 l0_3 false).bind fun bt221 => (if y218.length + bt221.1.length < 140737488355328 then (some ((y218 ++ bt221.1), 0)) else (none)))) = some (r1, r2) := by rw [if_neg (show ¬ (false = true) by decide)] at H; exact H
                            clear H
                            have H := H1
                            clear H1
                            obtain ⟨y218, hy218⟩ : ∃ y_ : List Int, y_ = (([255, 254] : List Int)) := ⟨_, rfl⟩
                            replace H : ((redactorref03_Encode.f kj27 l0_3 false).bind fun bt221 => (if y218.length + bt221.1.length < 140737488355328 then (some ((y218 ++ bt221.1), 0)) else (none))) = some (r1, r2) := by first | (rw [hy218]; with_reducible exact H) | (have H2_ := (Option.bind_some _ _).symm.trans H; rw [hy218]; with_reducible exact H2_) | (have H2_ := (Option.bind_some _ _).symm.trans H; with_reducible exact H2_) | with_reducible exact H | (rw [hy218]; exact H) | exact H
                            have Ny218 := Aside0.mk hy218
                            clear hy218
                            replace H := Option.bind_eq_some_iff.mp H
                            obtain ⟨⟨t221, t222⟩, A440, H⟩ := H
                            replace H : (if y218.length + t221.length < 140737488355328 then (some ((y218 ++ t221), 0)) else (none)) = some (r1, r2) := H
                            have A44 := Aside0.mk A440
                            clear A440
                            by_cases c45 : y218.length + t221.length < 140737488355328
                            · rw [if_pos c45] at H
                              have LMc45 := Aside0.mk c45
                              clear c45
                              obtain ⟨y225, hy225⟩ : ∃ y_ : List Int, y_ = (y218 ++ t221) := ⟨_, rfl⟩
                              replace H : (some (y225, 0)) = some (r1, r2) := by first | (rw [hy225]; with_reducible exact H) | (have H2_ := (Option.bind_some _ _).symm.trans H; rw [hy225]; with_reducible exact H2_) | (have H2_ := (Option.bind_some _ _).symm.trans H; with_reducible exact H2_) | with_reducible exact H | (rw [hy225]; exact H) | exact H
                              have Ny225 := Aside0.mk hy225
                              clear hy225
                              simp only [Option.some.injEq, Prod.mk.injEq] at H
                              obtain ⟨rfl, rfl⟩ := H
                              go_wp2_with (first | ((with_reducible refine gate_dst (N := 65) rfl ?_); refine Kd.R_lit (Kd.int .u8) _ 5 ?hg (N := 65) ?hd (xs := ([254, 255] : List Int)) (inner := [.int .u8 254, .int .u8 255]) (ok := fun _ => True) (okp := fun _ => True) ?hr ?hp (fun _ hk => hk) trivial (Below.refl _ _) (Nat.le_refl _) (by simp) ?_; (case hd => rfl); (case hg => rfl); (case hr => first | (go_simp; done) | (go_simp; rfl)); (case hp => exact (Reps.one (show Kd.M (Kd.int .u8) _ _ _ 254 [.int .u8 254] from rfl) (Reps.one (show Kd.M (Kd.int .u8) _ _ _ 255 [.int .u8 255] from rfl) (Reps.none _ _)))); intro v209 w46 ho47 hb hg_ hnew_; clear hg_ hnew_; (first | rw [← Ny208.out] at ho47 | (simp only [Int.reduceToNat] at ho47; rw [← Ny208.out] at ho47)); have n0_ := Aside0.mk (Kd.R_elder' (by (with_reducible repeat (first | apply Kd.R_alloc | apply Kd.R_drewN | apply Kd.R_drew)); exact HO_5.out) (Kd.R_base ho47) hb); have n1_ := Aside0.mk (Kd.R_lower (Kd.R_new' ho47 (Kd.R_lt (by (with_reducible repeat (first | apply Kd.R_alloc | apply Kd.R_drewN | apply Kd.R_drew)); exact HO_5.out))) (below_size (by repeat (first | (with_reducible first | exact HB.out | apply below_alloc | apply pw_below_drewN | apply below_drew1 | refine below_set ?_ GE197.out) | exact HB.out)))); have n2_ := Aside0.mk (blk_below (g := gb197) (o := .cells #[.int .u8 a0_0, .bool false, .bool true, .slice A0_3 l0_3.length c0_3] 29 (0, 0)) (by (with_reducible repeat (first | refine blk_drewN ?_ _ | refine blk_drew ?_ | refine blk_alloc ?_ _)); exact BK197.out) hb); have n3_ := Aside0.mk (below_step (by repeat (first | (with_reducible first | exact HB.out | apply below_alloc | apply pw_below_drewN | apply below_drew1 | refine below_set ?_ GE197.out) | exact HB.out)) hb); clear HO_5; clear BK197; clear HB; have HO_5 := n0_; have HO210 := n1_; have BK197 := n2_; have HB := n3_; clear n0_ n1_ n2_ n3_; clear hb ho47; have hcz48_0 : w46.cell? ⟨gb197, 0, none⟩ = some (.int .u8 a0_0) := (blk_cell BK197.out 0).trans rfl; have hcz48_1 : w46.cell? ⟨gb197, 1, none⟩ = some (.bool false) := (blk_cell BK197.out 1).trans rfl; have hcz48_2 : w46.cell? ⟨gb197, 2, none⟩ = some (.bool true) := (blk_cell BK197.out 2).trans rfl; have hcz48_3 : w46.cell? ⟨gb197, 3, none⟩ = some (.slice A0_3 l0_3.length c0_3) := (blk_cell BK197.out 3).trans rfl; have hfz48_0 := blk_frozen BK197.out 0; have hfz48_1 := blk_frozen BK197.out 1; have hfz48_2 := blk_frozen BK197.out 2; have hfz48_3 := blk_frozen BK197.out 3) | ((with_reducible refine gate_dst (N := 73) rfl ?_); refine Kd.R_lit (Kd.int .u8) _ 5 ?hg (N := 73) ?hd (xs := ([255, 254] : List Int)) (inner := [.int .u8 255, .int .u8 254]) (ok := fun _ => True) (okp := fun _ => True) ?hr ?hp (fun _ hk => hk) trivial (Below.refl _ _) (Nat.le_refl _) (by simp) ?_; (case hd => rfl); (case hg => rfl); (case hr => first | (go_simp; done) | (go_simp; rfl)); (case hp => exact (Reps.one (show Kd.M (Kd.int .u8) _ _ _ 255 [.int .u8 255] from rfl) (Reps.one (show Kd.M (Kd.int .u8) _ _ _ 254 [.int .u8 254] from rfl) (Reps.none _ _)))); intro v219 w49 ho50 hb hg_ hnew_; clear hg_ hnew_; (first | rw [← Ny218.out] at ho50 | (simp only [Int.reduceToNat] at ho50; rw [← Ny218.out] at ho50)); have n0_ := Aside0.mk (Kd.R_elder' (by (with_reducible repeat (first | apply Kd.R_alloc | apply Kd.R_drewN | apply Kd.R_drew)); exact HO_5.out) (Kd.R_base ho50) hb); have n1_ := Aside0.mk (Kd.R_elder' (by (with_reducible repeat (first | apply Kd.R_alloc | apply Kd.R_drewN | apply Kd.R_drew)); exact HO210.out) (Kd.R_base ho50) hb); have n2_ := Aside0.mk (Kd.R_lower (Kd.R_new' (Kd.R_new' ho50 (Kd.R_lt (by (with_reducible repeat (first | apply Kd.R_alloc | apply Kd.R_drewN | apply Kd.R_drew)); exact HO_5.out))) (Kd.R_lt (by (with_reducible repeat (first | apply Kd.R_alloc | apply Kd.R_drewN | apply Kd.R_drew)); exact HO210.out))) (below_size (by repeat (first | (with_reducible first | exact HB.out | apply below_alloc | apply pw_below_drewN | apply below_drew1 | refine below_set ?_ GE197.out) | exact HB.out)))); have n3_ := Aside0.mk (blk_below (g := gb197) (o := .cells #[.int .u8 a0_0, .bool false, .bool true, .slice A0_3 l0_3.length c0_3] 29 (0, 0)) (by (with_reducible repeat (first | refine blk_drewN ?_ _ | refine blk_drew ?_ | refine blk_alloc ?_ _)); exact BK197.out) hb); have n4_ := Aside0.mk (below_step (by repeat (first | (with_reducible first | exact HB.out | apply below_alloc | apply pw_below_drewN | apply below_drew1 | refine below_set ?_ GE197.out) | exact HB.out)) hb); clear HO_5; clear HO210; clear BK197; clear HB; have HO_5 := n0_; have HO210 := n1_; have HO220 := n2_; have BK197 := n3_; have HB := n4_; clear n0_ n1_ n2_ n3_ n4_; clear hb ho50; have hcz51_0 : w49.cell? ⟨gb197, 0, none⟩ = some (.int .u8 a0_0) := (blk_cell BK197.out 0).trans rfl; have hcz51_1 : w49.cell? ⟨gb197, 1, none⟩ = some (.bool false) := (blk_cell BK197.out 1).trans rfl; have hcz51_2 : w49.cell? ⟨gb197, 2, none⟩ = some (.bool true) := (blk_cell BK197.out 2).trans rfl; have hcz51_3 : w49.cell? ⟨gb197, 3, none⟩ = some (.slice A0_3 l0_3.length c0_3) := (blk_cell BK197.out 3).trans rfl; have hfz51_0 := blk_frozen BK197.out 0; have hfz51_1 := blk_frozen BK197.out 1; have hfz51_2 := blk_frozen BK197.out 2; have hfz51_3 := blk_frozen BK197.out 3) | ((with_reducible refine gate_callee (f := 45) rfl ?_); refine goesL_ (some 79) rfl rfl Tryd.func45 (by kernel_rfl) rfl #[.slice A0_3 l0_3.length c0_3, .bool false] rfl (by (try simp only [List.map_toArray, List.map_cons, List.map_nil]); first | done | rfl | (simp only [List.length_drop, List.length_take]; rfl)) ?_; (with_reducible refine (redactorref03_Encode.calls kj27 _ _ l0_3 false t221 t222 _ ?side1 ?side2 A44.out).mono ?_); (case side1 => repeat (first | exact (Kd.C_below HR0_3.out HB.out) | (with_reducible refine Kd.C_alloc ?_ _) | (with_reducible refine Kd.C_drewN ?_ _) | (with_reducible refine Kd.C_drew ?_))); (case side2 => exact HC0_3.out); rintro e w52 ⟨v223, rfl, ho0, hb⟩; refine ⟨_, rfl, ?_⟩; have n0_ := Aside0.mk (Kd.R_elder' (by (with_reducible repeat (first | apply Kd.R_alloc | apply Kd.R_drewN | apply Kd.R_drew)); exact HO_5.out) (Kd.R_base ho0) hb); have n1_ := Aside0.mk (Kd.R_elder' (by (with_reducible repeat (first | apply Kd.R_alloc | apply Kd.R_drewN | apply Kd.R_drew)); exact HO210.out) (Kd.R_base ho0) hb); have n2_ := Aside0.mk (Kd.R_elder' (by (with_reducible repeat (first | apply Kd.R_alloc | apply Kd.R_drewN | apply Kd.R_drew)); exact HO220.out) (Kd.R_base ho0) hb); have n3_ := Aside0.mk (Kd.R_lower (Kd.R_new' (Kd.R_new' (Kd.R_new' ho0 (Kd.R_lt (by (with_reducible repeat (first | apply Kd.R_alloc | apply Kd.R_drewN | apply Kd.R_drew)); exact HO_5.out))) (Kd.R_lt (by (with_reducible repeat (first | apply Kd.R_alloc | apply Kd.R_drewN | apply Kd.R_drew)); exact HO210.out))) (Kd.R_lt (by (with_reducible repeat (first | apply Kd.R_alloc | apply Kd.R_drewN | apply Kd.R_drew)); exact HO220.out))) (below_size (by repeat (first | (with_reducible first | exact HB.out | apply below_alloc | apply pw_below_drewN | apply below_drew1 | refine below_set ?_ GE197.out) | exact HB.out)))); have n4_ := Aside0.mk (blk_below (g := gb197) (o := .cells #[.int .u8 a0_0, .bool false, .bool true, .slice A0_3 l0_3.length c0_3] 29 (0, 0)) (by (with_reducible repeat (first | refine blk_drewN ?_ _ | refine blk_drew ?_ | refine blk_alloc ?_ _)); exact BK197.out) hb); have n5_ := Aside0.mk (below_step (by repeat (first | (with_reducible first | exact HB.out | apply below_alloc | apply pw_below_drewN | apply below_drew1 | refine below_set ?_ GE197.out) | exact HB.out)) hb); clear HO_5; clear HO210; clear HO220; clear BK197; clear HB; have HO_5 := n0_; have HO210 := n1_; have HO220 := n2_; have HO224 := n3_; have BK197 := n4_; have HB := n5_; clear n0_ n1_ n2_ n3_ n4_ n5_; (try clear hb); (try clear hb2); (try clear hk); (try clear hi); (try clear ho0); obtain ⟨Ao54, co54, eo54⟩ := Kd.R_slice HO224.out; subst eo54) | ((with_reducible refine gate_builtin (b := .append) (xs := #[.tmp 82, .tmp 83]) rfl ?_); at_builtin; refine Kd.R_append_rows (Kd.int .u8) (w0 := w) w.heap.size rfl (.tmp 82) (.tmp 83) 22 5 (.int .u8 0) 1 rfl Tryd.underlying22 info5 rfl (by decide) (by omega) v219 y218 t221 _ _ _ (fun k_ => some k_ ≠ (.slice none 0 0 : Value).ownBlock ∧ some k_ ≠ (v209 : Value).ownBlock ∧ some k_ ≠ (.slice Ao54 t221.length co54 : Value).ownBlock) (fun _ => False) rfl rfl ?aO ?aR (fun _ _ h => h) (fun _ h => h.elim) ?aF ?aB ?aS ?aL ?_; (case aR => repeat (first | exact (Kd.R_reads' HO224.out).2.2 | (with_reducible refine Kd.C_alloc ?_ _) | (with_reducible refine Kd.C_drewN ?_ _) | (with_reducible refine Kd.C_drew ?_))); (case aB => exact (by repeat (first | (with_reducible first | exact HB.out | apply below_alloc | apply pw_below_drewN | apply below_drew1 | refine below_set ?_ GE197.out) | exact HB.out))); (case aF => exact (fun k_ hk => ⟨Kd.fresh' (Kd.R_lt (by (with_reducible repeat (first | apply Kd.R_alloc | apply Kd.R_drewN | apply Kd.R_drew)); exact HO_5.out)) k_ hk, Kd.fresh' (Kd.R_lt (by (with_reducible repeat (first | apply Kd.R_alloc | apply Kd.R_drewN | apply Kd.R_drew)); exact HO210.out)) k_ hk, Kd.fresh' (Kd.R_lt (by (with_reducible repeat (first | apply Kd.R_alloc | apply Kd.R_drewN | apply Kd.R_drew)); exact HO224.out)) k_ hk⟩)); (case aO => exact (by (with_reducible repeat (first | apply Kd.R_alloc | apply Kd.R_drewN | apply Kd.R_drew)); exact Kd.R_mono HO220.out (fun _ hk => ⟨hk.1.1.2, ⟨hk.1.2, hk.2⟩⟩))); (case aS => exact (below_size (by repeat (first | (with_reducible first | exact HB.out | apply below_alloc | apply pw_below_drewN | apply below_drew1 | refine below_set ?_ GE197.out) | exact HB.out)))); (case aL => have := LMc45.out; omega); intro v226 w53 ho hb hg hat; rw [← Ny225.out] at ho; have n0_ := Aside0.mk (Kd.R_after (ok := (fun k_ => some k_ ≠ (v209 : Value).ownBlock ∧ some k_ ≠ (.slice Ao54 t221.length co54 : Value).ownBlock)) (by (with_reducible repeat (first | apply Kd.R_alloc | apply Kd.R_drewN | apply Kd.R_drew)); exact Kd.R_mono HO_5.out (fun _ hk => ⟨⟨hk.1.1.2, hk.2⟩, hk.1.2⟩)) hg hat); have n1_ := Aside0.mk (blk_grown (g := gb197) (o := .cells #[.int .u8 a0_0, .bool false, .bool true, .slice A0_3 l0_3.length c0_3] 29 (0, 0)) (by (with_reducible repeat (first | refine blk_drewN ?_ _ | refine blk_drew ?_ | refine blk_alloc ?_ _)); exact BK197.out) hg (Kd.R_ne HO220.out BK197.out (by decide))); have n2_ := Aside0.mk (Kd.R_after (ok := (fun k_ => some k_ ≠ (.slice none 0 0 : Value).ownBlock ∧ some k_ ≠ (.slice Ao54 t221.length co54 : Value).ownBlock)) (by (with_reducible repeat (first | apply Kd.R_alloc | apply Kd.R_drewN | apply Kd.R_drew)); exact Kd.R_mono HO210.out (fun _ hk => ⟨⟨hk.1.1.2, hk.2⟩, hk.1.2⟩)) hg hat); have n3_ := Aside0.mk (Kd.R_after (ok := (fun k_ => some k_ ≠ (.slice none 0 0 : Value).ownBlock ∧ some k_ ≠ (v209 : Value).ownBlock)) (by (with_reducible repeat (first | apply Kd.R_alloc | apply Kd.R_drewN | apply Kd.R_drew)); exact Kd.R_mono HO224.out (fun _ hk => ⟨⟨hk.1.1.2, hk.1.2⟩, hk.2⟩)) hg hat); have n4_ := Aside0.mk (hb); have n5_ := Aside0.mk (ho); clear HO_5; clear BK197; clear HO210; clear HO224; clear HB; clear HO220; have HO_5 := n0_; have BK197 := n1_; have HO210 := n2_; have HO224 := n3_; have HB := n4_; have HO227 := n5_; clear n0_ n1_ n2_ n3_ n4_ n5_; clear ho hb hg hat))
                              go_ret2
                              exact ⟨_, by first | rfl | (simp [errW_none, errW_some] <;> rfl) | (simp [*, errW_none, errW_some] <;> rfl), by (with_reducible repeat (first | apply Kd.R_alloc | apply Kd.R_drewN | apply Kd.R_drew)); exact Kd.R_mono HO227.out (fun _ hk => trivial), by repeat (first | (with_reducible first | exact HB.out | apply below_alloc | apply pw_below_drewN | apply below_drew1 | refine below_set ?_ GE197.out) | exact HB.out)⟩
                            · rw [if_neg c45] at H
                              exact absurd H (by simp)
                        · replace c34 := Bool.eq_false_iff.mpr c34
                          subst c34
                          have H1 : ((redactorref03_Encode.f kj27 l0_3 a0_1).bind fun bt228 => (if y208.length + bt228.1.length < 140737488355328 then (some ((y208 ++ bt228.1), 0)) else (none))) = some (r1, r2) := by rw [if_neg (show ¬ (false = true) by decide)] at H; exact H
                          clear H
                          have H := H1
                          clear H1
                          replace H := Option.bind_eq_some_iff.mp H
                          obtain ⟨⟨t228, t229⟩, A550, H⟩ := H
                          replace H : (if y208.length + t228.length < 140737488355328 then (some ((y208 ++ t228), 0)) else (none)) = some (r1, r2) := H
                          have A55 := Aside0.mk A550
                          clear A550
                          by_cases c56 : y208.length + t228.length < 140737488355328
                          · rw [if_pos c56] at H
                            have LMc56 := Aside0.mk c56
                            clear c56
                            obtain ⟨y232, hy232⟩ : ∃ y_ : List Int, y_ = (y208 ++ t228) := ⟨_, rfl⟩
                            replace H : (some (y232, 0)) = some (r1, r2) := by first | (rw [hy232]; with_reducible exact H) | (have H2_ := (Option.bind_some _ _).symm.trans H; rw [hy232]; with_reducible exact H2_) | (have H2_ := (Option.bind_some _ _).symm.trans H; with_reducible exact H2_) | with_reducible exact H | (rw [hy232]; exact H) | exact H
                            have Ny232 := Aside0.mk hy232
                            clear hy232
                            simp only [Option.some.injEq, Prod.mk.injEq] at H
                            obtain ⟨rfl, rfl⟩ := H
                            go_wp2_with (first | ((with_reducible refine gate_dst (N := 65) rfl ?_); refine Kd.R_lit (Kd.int .u8) _ 5 ?hg (N := 65) ?hd (xs := ([254, 255] : List Int)) (inner := [.int .u8 254, .int .u8 255]) (ok := fun _ => True) (okp := fun _ => True) ?hr ?hp (fun _ hk => hk) trivial (Below.refl _ _) (Nat.le_refl _) (by simp) ?_; (case hd => rfl); (case hg => rfl); (case hr => first | (go_simp; done) | (go_simp; rfl)); (case hp => exact (Reps.one (show Kd.M (Kd.int .u8) _ _ _ 254 [.int .u8 254] from rfl) (Reps.one (show Kd.M (Kd.int .u8) _ _ _ 255 [.int .u8 255] from rfl) (Reps.none _ _)))); intro v209 w57 ho58 hb hg_ hnew_; clear hg_ hnew_; (first | rw [← Ny208.out] at ho58 | (simp only [Int.reduceToNat] at ho58; rw [← Ny208.out] at ho58)); have n0_ := Aside0.mk (Kd.R_elder' (by (with_reducible repeat (first | apply Kd.R_alloc | apply Kd.R_drewN | apply Kd.R_drew)); exact HO_5.out) (Kd.R_base ho58) hb); have n1_ := Aside0.mk (Kd.R_lower (Kd.R_new' ho58 (Kd.R_lt (by (with_reducible repeat (first | apply Kd.R_alloc | apply Kd.R_drewN | apply Kd.R_drew)); exact HO_5.out))) (below_size (by repeat (first | (with_reducible first | exact HB.out | apply below_alloc | apply pw_below_drewN | apply below_drew1 | refine below_set ?_ GE197.out) | exact HB.out)))); have n2_ := Aside0.mk (blk_below (g := gb197) (o := .cells #[.int .u8 a0_0, .bool a0_1, .bool false, .slice A0_3 l0_3.length c0_3] 29 (0, 0)) (by (with_reducible repeat (first | refine blk_drewN ?_ _ | refine blk_drew ?_ | refine blk_alloc ?_ _)); exact BK197.out) hb); have n3_ := Aside0.mk (below_step (by repeat (first | (with_reducible first | exact HB.out | apply below_alloc | apply pw_below_drewN | apply below_drew1 | refine below_set ?_ GE197.out) | exact HB.out)) hb); clear HO_5; clear BK197; clear HB; have HO_5 := n0_; have HO210 := n1_; have BK197 := n2_; have HB := n3_; clear n0_ n1_ n2_ n3_; clear hb ho58; have hcz59_0 : w57.cell? ⟨gb197, 0, none⟩ = some (.int .u8 a0_0) := (blk_cell BK197.out 0).trans rfl; have hcz59_1 : w57.cell? ⟨gb197, 1, none⟩ = some (.bool a0_1) := (blk_cell BK197.out 1).trans rfl; have hcz59_2 : w57.cell? ⟨gb197, 2, none⟩ = some (.bool false) := (blk_cell BK197.out 2).trans rfl; have hcz59_3 : w57.cell? ⟨gb197, 3, none⟩ = some (.slice A0_3 l0_3.length c0_3) := (blk_cell BK197.out 3).trans rfl; have hfz59_0 := blk_frozen BK197.out 0; have hfz59_1 := blk_frozen BK197.out 1; have hfz59_2 := blk_frozen BK197.out 2; have hfz59_3 := blk_frozen BK197.out 3) | ((with_reducible refine gate_callee (f := 45) rfl ?_); refine goesL_ (some 79) rfl rfl Tryd.func45 (by kernel_rfl) rfl #[.slice A0_3 l0_3.length c0_3, .bool a0_1] rfl (by (try simp only [List.map_toArray, List.map_cons, List.map_nil]); first | done | rfl | (simp only [List.length_drop, List.length_take]; rfl)) ?_; (with_reducible refine (redactorref03_Encode.calls kj27 _ _ l0_3 a0_1 t228 t229 _ ?side1 ?side2 A55.out).mono ?_); (case side1 => repeat (first | exact (Kd.C_below HR0_3.out HB.out) | (with_reducible refine Kd.C_alloc ?_ _) | (with_reducible refine Kd.C_drewN ?_ _) | (with_reducible refine Kd.C_drew ?_))); (case side2 => exact HC0_3.out); rintro e w60 ⟨v230, rfl, ho0, hb⟩; refine ⟨_, rfl, ?_⟩; have n0_ := Aside0.mk (Kd.R_elder' (by (with_reducible repeat (first | apply Kd.R_alloc | apply Kd.R_drewN | apply Kd.R_drew)); exact HO_5.out) (Kd.R_base ho0) hb); have n1_ := Aside0.mk (Kd.R_elder' (by (with_reducible repeat (first | apply Kd.R_alloc | apply Kd.R_drewN | apply Kd.R_drew)); exact HO210.out) (Kd.R_base ho0) hb); have n2_ := Aside0.mk (Kd.R_lower (Kd.R_new' (Kd.R_new' ho0 (Kd.R_lt (by (with_reducible repeat (first | apply Kd.R_alloc | apply Kd.R_drewN | apply Kd.R_drew)); exact HO_5.out))) (Kd.R_lt (by (with_reducible repeat (first | apply Kd.R_alloc | apply Kd.R_drewN | apply Kd.R_drew)); exact HO210.out))) (below_size (by repeat (first | (with_reducible first | exact HB.out | apply below_alloc | apply pw_below_drewN | apply below_drew1 | refine below_set ?_ GE197.out) | exact HB.out)))); have n3_ := Aside0.mk (blk_below (g := gb197) (o := .cells #[.int .u8 a0_0, .bool a0_1, .bool false, .slice A0_3 l0_3.length c0_3] 29 (0, 0)) (by (with_reducible repeat (first | refine blk_drewN ?_ _ | refine blk_drew ?_ | refine blk_alloc ?_ _)); exact BK197.out) hb); have n4_ := Aside0.mk (below_step (by repeat (first | (with_reducible first | exact HB.out | apply below_alloc | apply pw_below_drewN | apply below_drew1 | refine below_set ?_ GE197.out) | exact HB.out)) hb); clear HO_5; clear HO210; clear BK197; clear HB; have HO_5 := n0_; have HO210 := n1_; have HO231 := n2_; have BK197 := n3_; have HB := n4_; clear n0_ n1_ n2_ n3_ n4_; (try clear hb); (try clear hb2); (try clear hk); (try clear hi); (try clear ho0); obtain ⟨Ao62, co62, eo62⟩ := Kd.R_slice HO231.out; subst eo62) | ((with_reducible refine gate_builtin (b := .append) (xs := #[.tmp 82, .tmp 83]) rfl ?_); at_builtin; refine Kd.R_append_rows (Kd.int .u8) (w0 := w) w.heap.size rfl (.tmp 82) (.tmp 83) 22 5 (.int .u8 0) 1 rfl Tryd.underlying22 info5 rfl (by decide) (by omega) v209 y208 t228 _ _ _ (fun k_ => some k_ ≠ (.slice none 0 0 : Value).ownBlock ∧ some k_ ≠ (.slice Ao62 t228.length co62 : Value).ownBlock) (fun _ => False) rfl rfl ?aO ?aR (fun _ _ h => h) (fun _ h => h.elim) ?aF ?aB ?aS ?aL ?_; (case aR => repeat (first | exact (Kd.R_reads' HO231.out).2.2 | (with_reducible refine Kd.C_alloc ?_ _) | (with_reducible refine Kd.C_drewN ?_ _) | (with_reducible refine Kd.C_drew ?_))); (case aB => exact (by repeat (first | (with_reducible first | exact HB.out | apply below_alloc | apply pw_below_drewN | apply below_drew1 | refine below_set ?_ GE197.out) | exact HB.out))); (case aF => exact (fun k_ hk => ⟨Kd.fresh' (Kd.R_lt (by (with_reducible repeat (first | apply Kd.R_alloc | apply Kd.R_drewN | apply Kd.R_drew)); exact HO_5.out)) k_ hk, Kd.fresh' (Kd.R_lt (by (with_reducible repeat (first | apply Kd.R_alloc | apply Kd.R_drewN | apply Kd.R_drew)); exact HO231.out)) k_ hk⟩)); (case aO => exact (by (with_reducible repeat (first | apply Kd.R_alloc | apply Kd.R_drewN | apply Kd.R_drew)); exact Kd.R_mono HO210.out (fun _ hk => ⟨hk.1.2, hk.2⟩))); (case aS => exact (below_size (by repeat (first | (with_reducible first | exact HB.out | apply below_alloc | apply pw_below_drewN | apply below_drew1 | refine below_set ?_ GE197.out) | exact HB.out)))); (case aL => have := LMc56.out; omega); intro v233 w61 ho hb hg hat; rw [← Ny232.out] at ho; have n0_ := Aside0.mk (Kd.R_after (ok := (fun k_ => some k_ ≠ (.slice Ao62 t228.length co62 : Value).ownBlock)) (by (with_reducible repeat (first | apply Kd.R_alloc | apply Kd.R_drewN | apply Kd.R_drew)); exact Kd.R_mono HO_5.out (fun _ hk => ⟨hk.2, hk.1.2⟩)) hg hat); have n1_ := Aside0.mk (blk_grown (g := gb197) (o := .cells #[.int .u8 a0_0, .bool a0_1, .bool false, .slice A0_3 l0_3.length c0_3] 29 (0, 0)) (by (with_reducible repeat (first | refine blk_drewN ?_ _ | refine blk_drew ?_ | refine blk_alloc ?_ _)); exact BK197.out) hg (Kd.R_ne HO210.out BK197.out (by decide))); have n2_ := Aside0.mk (Kd.R_after (ok := (fun k_ => some k_ ≠ (.slice none 0 0 : Value).ownBlock)) (by (with_reducible repeat (first | apply Kd.R_alloc | apply Kd.R_drewN | apply Kd.R_drew)); exact Kd.R_mono HO231.out (fun _ hk => ⟨hk.1.2, hk.2⟩)) hg hat); have n3_ := Aside0.mk (hb); have n4_ := Aside0.mk (ho); clear HO_5; clear BK197; clear HO231; clear HB; clear HO210; have HO_5 := n0_; have BK197 := n1_; have HO231 := n2_; have HB := n3_; have HO234 := n4_; clear n0_ n1_ n2_ n3_ n4_; clear ho hb hg hat))
                            go_ret2
                            exact ⟨_, by first | rfl | (simp [errW_none, errW_some] <;> rfl) | (simp [*, errW_none, errW_some] <;> rfl), by (with_reducible repeat (first | apply Kd.R_alloc | apply Kd.R_drewN | apply Kd.R_drew)); exact Kd.R_mono HO234.out (fun _ hk => trivial), by repeat (first | (with_reducible first | exact HB.out | apply below_alloc | apply pw_below_drewN | apply below_drew1 | refine below_set ?_ GE197.out) | exact HB.out)⟩
                          · rw [if_neg c56] at H
                            exact absurd H (by simp)
                      · replace c33 := Bool.eq_false_iff.mpr c33
                        subst c33
                        have H1 : (if a0_2 = true then (if a0_1 = true then ((redactorref03_Encode.f kj27 l0_3 a0_1).bind fun bt235 => (if ([] : List Int).length + bt235.1.length < 140737488355328 then (some ((([] : List Int) ++ bt235.1), 0)) else (none))) else ((some (([255, 254] : List Int) : List Int)).bind fun y242 => ((redactorref03_Encode.f kj27 l0_3 a0_1).bind fun bt245 => (if y242.length + bt245.1.length < 140737488355328 then (some ((y242 ++ bt245.1), 0)) else (none))))) else ((redactorref03_Encode.f kj27 l0_3 a0_1).bind fun bt252 => (if ([] : List Int).length + bt252.1.length < 140737488355328 then (some ((([] : List Int) ++ bt252.1), 0)) else (none)))) = some (r1, r2) := by rw [if_neg (show ¬ (false = true) by decide)] at H; exact H
                        clear H
                        have H := H1
                        clear H1
                        by_cases c63 : a0_2 = true
                        · subst c63
                          have H1 : (if a0_1 = true then ((redactorref03_Encode.f kj27 l0_3 a0_1).bind fun bt235 => (if ([] : List Int).length + bt235.1.length < 140737488355328 then (some ((([] : List Int) ++ bt235.1), 0)) else (none))) else ((some (([255, 254] : List Int) : List Int)).bind fun y242 => ((redactorref03_Encode.f kj27 l0_3 a0_1).bind fun bt245 => (if y242.length + bt245.1.length < 140737488355328 then (some ((y242 ++ bt245.1), 0)) else (none))))) = some (r1, r2) := by rw [if_pos rfl] at H; exact H
                          clear H
                          have H := H1
                          clear H1
                          by_cases c64 : a0_1 = true
                          · subst c64
                            have H1 : ((redactorref03_Encode.f kj27 l0_3 true).bind fun bt235 => (if ([] : List Int).length + bt235.1.length < 140737488355328 then (some ((([] : List Int) ++ bt235.1), 0)) else (none))) = some (r1, r2) := by rw [if_pos rfl] at H; exact H
                            clear H
                            have H := H1
                            clear H1
                            replace H := Option.bind_eq_some_iff.mp H
                            obtain ⟨⟨t235, t236⟩, A650, H⟩ := H
                            replace H : (if ([] : List Int).length + t235.length < 140737488355328 then (some ((([] : List Int) ++ t235), 0)) else (none)) = some (r1, r2) := H
                            have A65 := Aside0.mk A650
                            clear A650
                            by_cases c66 : ([] : List Int).length + t235.length < 140737488355328
                            · rw [if_pos c66] at H
                              have LMc66 := Aside0.mk c66
                              clear c66
                              obtain ⟨y239, hy239⟩ : ∃ y_ : List Int, y_ = (([] : List Int) ++ t235) := ⟨_, rfl⟩
                              replace H : (some (y239, 0)) = some (r1, r2) := by first | (rw [hy239]; with_reducible exact H) | (have H2_ := (Option.bind_some _ _).symm.trans H; rw [hy239]; with_reducible exact H2_) | (have H2_ := (Option.bind_some _ _).symm.trans H; with_reducible exact H2_) | with_reducible exact H | (rw [hy239]; exact H) | exact H
                              have Ny239 := Aside0.mk hy239
                              clear hy239
                              simp only [Option.some.injEq, Prod.mk.injEq] at H
                              obtain ⟨rfl, rfl⟩ := H
                              have hcz67_0 : wc.cell? ⟨gb197, 0, none⟩ = some (.int .u8 a0_0) := (blk_cell BK197.out 0).trans rfl
                              have hcz67_1 : wc.cell? ⟨gb197, 1, none⟩ = some (.bool true) := (blk_cell BK197.out 1).trans rfl
                              have hcz67_2 : wc.cell? ⟨gb197, 2, none⟩ = some (.bool true) := (blk_cell BK197.out 2).trans rfl
                              have hcz67_3 : wc.cell? ⟨gb197, 3, none⟩ = some (.slice A0_3 l0_3.length c0_3) := (blk_cell BK197.out 3).trans rfl
                              have hfz67_0 := blk_frozen BK197.out 0
                              have hfz67_1 := blk_frozen BK197.out 1
                              have hfz67_2 := blk_frozen BK197.out 2
                              have hfz67_3 := blk_frozen BK197.out 3
                              go_wp2_with (first | ((with_reducible refine gate_callee (f := 45) rfl ?_); refine goesL_ (some 79) rfl rfl Tryd.func45 (by kernel_rfl) rfl #[.slice A0_3 l0_3.length c0_3, .bool true] rfl (by (try simp only [List.map_toArray, List.map_cons, List.map_nil]); first | done | rfl | (simp only [List.length_drop, List.length_take]; rfl)) ?_; (with_reducible refine (redactorref03_Encode.calls kj27 _ _ l0_3 true t235 t236 _ ?side1 ?side2 A65.out).mono ?_); (case side1 => repeat (first | exact (Kd.C_below HR0_3.out HB.out) | (with_reducible refine Kd.C_alloc ?_ _) | (with_reducible refine Kd.C_drewN ?_ _) | (with_reducible refine Kd.C_drew ?_))); (case side2 => exact HC0_3.out); rintro e w68 ⟨v237, rfl, ho0, hb⟩; refine ⟨_, rfl, ?_⟩; have n0_ := Aside0.mk (Kd.R_elder' (by (with_reducible repeat (first | apply Kd.R_alloc | apply Kd.R_drewN | apply Kd.R_drew)); exact HO_5.out) (Kd.R_base ho0) hb); have n1_ := Aside0.mk (Kd.R_lower (Kd.R_new' ho0 (Kd.R_lt (by (with_reducible repeat (first | apply Kd.R_alloc | apply Kd.R_drewN | apply Kd.R_drew)); exact HO_5.out))) (below_size (by repeat (first | (with_reducible first | exact HB.out | apply below_alloc | apply pw_below_drewN | apply below_drew1 | refine below_set ?_ GE197.out) | exact HB.out)))); have n2_ := Aside0.mk (blk_below (g := gb197) (o := .cells #[.int .u8 a0_0, .bool true, .bool true, .slice A0_3 l0_3.length c0_3] 29 (0, 0)) (by (with_reducible repeat (first | refine blk_drewN ?_ _ | refine blk_drew ?_ | refine blk_alloc ?_ _)); exact BK197.out) hb); have n3_ := Aside0.mk (below_step (by repeat (first | (with_reducible first | exact HB.out | apply below_alloc | apply pw_below_drewN | apply below_drew1 | refine below_set ?_ GE197.out) | exact HB.out)) hb); clear HO_5; clear BK197; clear HB; have HO_5 := n0_; have HO238 := n1_; have BK197 := n2_; have HB := n3_; clear n0_ n1_ n2_ n3_; (try clear hb); (try clear hb2); (try clear hk); (try clear hi); (try clear ho0); obtain ⟨Ao70, co70, eo70⟩ := Kd.R_slice HO238.out; subst eo70) | ((with_reducible refine gate_builtin (b := .append) (xs := #[.tmp 82, .tmp 83]) rfl ?_); at_builtin; refine Kd.R_append_rows (Kd.int .u8) (w0 := w) w.heap.size rfl (.tmp 82) (.tmp 83) 22 5 (.int .u8 0) 1 rfl Tryd.underlying22 info5 rfl (by decide) (by omega) (.slice none 0 0) ([] : List Int) t235 _ _ _ (fun k_ => some k_ ≠ (.slice Ao70 t235.length co70 : Value).ownBlock) (fun _ => False) rfl rfl ?aO ?aR (fun _ _ h => h) (fun _ h => h.elim) ?aF ?aB ?aS ?aL ?_; (case aR => repeat (first | exact (Kd.R_reads' HO238.out).2.2 | (with_reducible refine Kd.C_alloc ?_ _) | (with_reducible refine Kd.C_drewN ?_ _) | (with_reducible refine Kd.C_drew ?_))); (case aB => exact (by repeat (first | (with_reducible first | exact HB.out | apply below_alloc | apply pw_below_drewN | apply below_drew1 | refine below_set ?_ GE197.out) | exact HB.out))); (case aF => exact (fun k_ hk => Kd.fresh' (Kd.R_lt (by (with_reducible repeat (first | apply Kd.R_alloc | apply Kd.R_drewN | apply Kd.R_drew)); exact HO238.out)) k_ hk)); (case aO => exact (by (with_reducible repeat (first | apply Kd.R_alloc | apply Kd.R_drewN | apply Kd.R_drew)); exact Kd.R_mono HO_5.out (fun _ hk => hk.2))); (case aS => exact (below_size (by repeat (first | (with_reducible first | exact HB.out | apply below_alloc | apply pw_below_drewN | apply below_drew1 | refine below_set ?_ GE197.out) | exact HB.out)))); (case aL => have := LMc66.out; omega); intro v240 w69 ho hb hg hat; rw [← Ny239.out] at ho; have n0_ := Aside0.mk (blk_grown (g := gb197) (o := .cells #[.int .u8 a0_0, .bool true, .bool true, .slice A0_3 l0_3.length c0_3] 29 (0, 0)) (by (with_reducible repeat (first | refine blk_drewN ?_ _ | refine blk_drew ?_ | refine blk_alloc ?_ _)); exact BK197.out) hg (Kd.R_ne HO_5.out BK197.out (by decide))); have n1_ := Aside0.mk (Kd.R_after (ok := (fun _ => True)) (by (with_reducible repeat (first | apply Kd.R_alloc | apply Kd.R_drewN | apply Kd.R_drew)); exact HO238.out) hg hat); have n2_ := Aside0.mk (hb); have n3_ := Aside0.mk (ho); clear BK197; clear HO238; clear HB; clear HO_5; have BK197 := n0_; have HO238 := n1_; have HB := n2_; have HO241 := n3_; clear n0_ n1_ n2_ n3_; clear ho hb hg hat))
                              go_ret2
                              exact ⟨_, by first | rfl | (simp [errW_none, errW_some] <;> rfl) | (simp [*, errW_none, errW_some] <;> rfl), by (with_reducible repeat (first | apply Kd.R_alloc | apply Kd.R_drewN | apply Kd.R_drew)); exact Kd.R_mono HO241.out (fun _ hk => trivial), by repeat (first | (with_reducible first | exact HB.out | apply below_alloc | apply pw_below_drewN | apply below_drew1 | refine below_set ?_ GE197.out) | exact HB.out)⟩
                            · rw [if_neg c66] at H
                              exact absurd H (by simp)
                          · replace c64 := Bool.eq_false_iff.mpr c64
                            subst c64
                            have H1 : ((some (([255, 254] : List Int) : List Int)).bind fun y242 => ((redactorref03_Encode.f kj27 l0_3 false).bind fun bt245 => (if y242.length + bt245.1.length < 140737488355328 then (some ((y242 ++ bt245.1), 0)) else (none)))) = some (r1, r2) := by rw [if_neg (show ¬ (false = true) by decide)] at H; exact H
                            clear H
                            have H := H1
                            clear H1
                            obtain ⟨y242, hy242⟩ : ∃ y_ : List Int, y_ = (([255, 254] : List Int)) := ⟨_, rfl⟩
                            replace H : ((redactorref03_Encode.f kj27 l0_3 false).bind fun bt245 => (if y242.length + bt245.1.length < 140737488355328 then (some ((y242 ++ bt245.1), 0)) else (none))) = some (r1, r2) := by first | (rw [hy242]; with_reducible exact H) | (have H2_ := (Option.bind_some _ _).symm.trans H; rw [hy242]; with_reducible exact H2_) | (have H2_ := (Option.bind_some _ _).symm.trans H; with_reducible exact H2_) | with_reducible exact H | (rw [hy242]; exact H) | exact H
                            have Ny242 := Aside0.mk hy242
                            clear hy242
                            replace H := Option.bind_eq_some_iff.mp H
                            obtain ⟨⟨t245, t246⟩, A710, H⟩ := H
                            replace H : (if y242.length + t245.length < 140737488355328 then (some ((y242 ++ t245), 0)) else (none)) = some (r1, r2) := H
                            have A71 := Aside0.mk A710
                            clear A710
                            by_cases c72 : y242.length + t245.length < 140737488355328
                            · rw [if_pos c72] at H
                              have LMc72 := Aside0.mk c72
                              clear c72
                              obtain ⟨y249, hy249⟩ : ∃ y_ : List Int, y_ = (y242 ++ t245) := ⟨_, rfl⟩
                              replace H : (some (y249, 0)) = some (r1, r2) := by first | (rw [hy249]; with_reducible exact H) | (have H2_ := (Option.bind_some _ _).symm.trans H; rw [hy249]; with_reducible exact H2_) | (have H2_ := (Option.bind_some _ _).symm.trans H; with_reducible exact H2_) | with_reducible exact H | (rw [hy249]; exact H) | exact H
                              have Ny249 := Aside0.mk hy249
                              clear hy249
                              simp only [Option.some.injEq, Prod.mk.injEq] at H
                              obtain ⟨rfl, rfl⟩ := H
                              have hcz73_0 : wc.cell? ⟨gb197, 0, none⟩ = some (.int .u8 a0_0) := (blk_cell BK197.out 0).trans rfl
                              have hcz73_1 : wc.cell? ⟨gb197, 1, none⟩ = some (.bool false) := (blk_cell BK197.out 1).trans rfl
                              have hcz73_2 : wc.cell? ⟨gb197, 2, none⟩ = some (.bool true) := (blk_cell BK197.out 2).trans rfl
                              have hcz73_3 : wc.cell? ⟨gb197, 3, none⟩ = some (.slice A0_3 l0_3.length c0_3) := (blk_cell BK197.out 3).trans rfl
                              have hfz73_0 := blk_frozen BK197.out 0
                              have hfz73_1 := blk_frozen BK197.out 1
                              have hfz73_2 := blk_frozen BK197.out 2
                              have hfz73_3 := blk_frozen BK197.out 3
                              go_wp2_with (first | ((with_reducible refine gate_dst (N := 73) rfl ?_); refine Kd.R_lit (Kd.int .u8) _ 5 ?hg (N := 73) ?hd (xs := ([255, 254] : List Int)) (inner := [.int .u8 255, .int .u8 254]) (ok := fun _ => True) (okp := fun _ => True) ?hr ?hp (fun _ hk => hk) trivial (Below.refl _ _) (Nat.le_refl _) (by simp) ?_; (case hd => rfl); (case hg => rfl); (case hr => first | (go_simp; done) | (go_simp; rfl)); (case hp => exact (Reps.one (show Kd.M (Kd.int .u8) _ _ _ 255 [.int .u8 255] from rfl) (Reps.one (show Kd.M (Kd.int .u8) _ _ _ 254 [.int .u8 254] from rfl) (Reps.none _ _)))); intro v243 w74 ho75 hb hg_ hnew_; clear hg_ hnew_; (first | rw [← Ny242.out] at ho75 | (simp only [Int.reduceToNat] at ho75; rw [← Ny242.out] at ho75)); have n0_ := Aside0.mk (Kd.R_elder' (by (with_reducible repeat (first | apply Kd.R_alloc | apply Kd.R_drewN | apply Kd.R_drew)); exact HO_5.out) (Kd.R_base ho75) hb); have n1_ := Aside0.mk (Kd.R_lower (Kd.R_new' ho75 (Kd.R_lt (by (with_reducible repeat (first | apply Kd.R_alloc | apply Kd.R_drewN | apply Kd.R_drew)); exact HO_5.out))) (below_size (by repeat (first | (with_reducible first | exact HB.out | apply below_alloc | apply pw_below_drewN | apply below_drew1 | refine below_set ?_ GE197.out) | exact HB.out)))); have n2_ := Aside0.mk (blk_below (g := gb197) (o := .cells #[.int .u8 a0_0, .bool false, .bool true, .slice A0_3 l0_3.length c0_3] 29 (0, 0)) (by (with_reducible repeat (first | refine blk_drewN ?_ _ | refine blk_drew ?_ | refine blk_alloc ?_ _)); exact BK197.out) hb); have n3_ := Aside0.mk (below_step (by repeat (first | (with_reducible first | exact HB.out | apply below_alloc | apply pw_below_drewN | apply below_drew1 | refine below_set ?_ GE197.out) | exact HB.out)) hb); clear HO_5; clear BK197; clear HB; have HO_5 := n0_; have HO244 := n1_; have BK197 := n2_; have HB := n3_; clear n0_ n1_ n2_ n3_; clear hb ho75; have hcz76_0 : w74.cell? ⟨gb197, 0, none⟩ = some (.int .u8 a0_0) := (blk_cell BK197.out 0).trans rfl; have hcz76_1 : w74.cell? ⟨gb197, 1, none⟩ = some (.bool false) := (blk_cell BK197.out 1).trans rfl; have hcz76_2 : w74.cell? ⟨gb197, 2, none⟩ = some (.bool true) := (blk_cell BK197.out 2).trans rfl; have hcz76_3 : w74.cell? ⟨gb197, 3, none⟩ = some (.slice A0_3 l0_3.length c0_3) := (blk_cell BK197.out 3).trans rfl; have hfz76_0 := blk_frozen BK197.out 0; have hfz76_1 := blk_frozen BK197.out 1; have hfz76_2 := blk_frozen BK197.out 2; have hfz76_3 := blk_frozen BK197.out 3) | ((with_reducible refine gate_callee (f := 45) rfl ?_); refine goesL_ (some 79) rfl rfl Tryd.func45 (by kernel_rfl) rfl #[.slice A0_3 l0_3.length c0_3, .bool false] rfl (by (try simp only [List.map_toArray, List.map_cons, List.map_nil]); first | done | rfl | (simp only [List.length_drop, List.length_take]; rfl)) ?_; (with_reducible refine (redactorref03_Encode.calls kj27 _ _ l0_3 false t245 t246 _ ?side1 ?side2 A71.out).mono ?_); (case side1 => repeat (first | exact (Kd.C_below HR0_3.out HB.out) | (with_reducible refine Kd.C_alloc ?_ _) | (with_reducible refine Kd.C_drewN ?_ _) | (with_reducible refine Kd.C_drew ?_))); (case side2 => exact HC0_3.out); rintro e w77 ⟨v247, rfl, ho0, hb⟩; refine ⟨_, rfl, ?_⟩; have n0_ := Aside0.mk (Kd.R_elder' (by (with_reducible repeat (first | apply Kd.R_alloc | apply Kd.R_drewN | apply Kd.R_drew)); exact HO_5.out) (Kd.R_base ho0) hb); have n1_ := Aside0.mk (Kd.R_elder' (by (with_reducible repeat (first | apply Kd.R_alloc | apply Kd.R_drewN | apply Kd.R_drew)); exact HO244.out) (Kd.R_base ho0) hb); have n2_ := Aside0.mk (Kd.R_lower (Kd.R_new' (Kd.R_new' ho0 (Kd.R_lt (by (with_reducible repeat (first | apply Kd.R_alloc | apply Kd.R_drewN | apply Kd.R_drew)); exact HO_5.out))) (Kd.R_lt (by (with_reducible repeat (first | apply Kd.R_alloc | apply Kd.R_drewN | apply Kd.R_drew)); exact HO244.out))) (below_size (by repeat (first | (with_reducible first | exact HB.out | apply below_alloc | apply pw_below_drewN | apply below_drew1 | refine below_set ?_ GE197.out) | exact HB.out)))); have n3_ := Aside0.mk (blk_below (g := gb197) (o := .cells #[.int .u8 a0_0, .bool false, .bool true, .slice A0_3 l0_3.length c0_3] 29 (0, 0)) (by (with_reducible repeat (first | refine blk_drewN ?_ _ | refine blk_drew ?_ | refine blk_alloc ?_ _)); exact BK197.out) hb); have n4_ := Aside0.mk (below_step (by repeat (first | (with_reducible first | exact HB.out | apply below_alloc | apply pw_below_drewN | apply below_drew1 | refine below_set ?_ GE197.out) | exact HB.out)) hb); clear HO_5; clear HO244; clear BK197; clear HB; have HO_5 := n0_; have HO244 := n1_; have HO248 := n2_; have BK197 := n3_; have HB := n4_; clear n0_ n1_ n2_ n3_ n4_; (try clear hb); (try clear hb2); (try clear hk); (try clear hi); (try clear ho0); obtain ⟨Ao79, co79, eo79⟩ := Kd.R_slice HO248.out; subst eo79) | ((with_reducible refine gate_builtin (b := .append) (xs := #[.tmp 82, .tmp 83]) rfl ?_); at_builtin; refine Kd.R_append_rows (Kd.int .u8) (w0 := w) w.heap.size rfl (.tmp 82) (.tmp 83) 22 5 (.int .u8 0) 1 rfl Tryd.underlying22 info5 rfl (by decide) (by omega) v243 y242 t245 _ _ _ (fun k_ => some k_ ≠ (.slice none 0 0 : Value).ownBlock ∧ some k_ ≠ (.slice Ao79 t245.length co79 : Value).ownBlock) (fun _ => False) rfl rfl ?aO ?aR (fun _ _ h => h) (fun _ h => h.elim) ?aF ?aB ?aS ?aL ?_; (case aR => repeat (first | exact (Kd.R_reads' HO248.out).2.2 | (with_reducible refine Kd.C_alloc ?_ _) | (with_reducible refine Kd.C_drewN ?_ _) | (with_reducible refine Kd.C_drew ?_))); (case aB => exact (by repeat (first | (with_reducible first | exact HB.out | apply below_alloc | apply pw_below_drewN | apply below_drew1 | refine below_set ?_ GE197.out) | exact HB.out))); (case aF => exact (fun k_ hk => ⟨Kd.fresh' (Kd.R_lt (by (with_reducible repeat (first | apply Kd.R_alloc | apply Kd.R_drewN | apply Kd.R_drew)); exact HO_5.out)) k_ hk, Kd.fresh' (Kd.R_lt (by (with_reducible repeat (first | apply Kd.R_alloc | apply Kd.R_drewN | apply Kd.R_drew)); exact HO248.out)) k_ hk⟩)); (case aO => exact (by (with_reducible repeat (first | apply Kd.R_alloc | apply Kd.R_drewN | apply Kd.R_drew)); exact Kd.R_mono HO244.out (fun _ hk => ⟨hk.1.2, hk.2⟩))); (case aS => exact (below_size (by repeat (first | (with_reducible first | exact HB.out | apply below_alloc | apply pw_below_drewN | apply below_drew1 | refine below_set ?_ GE197.out) | exact HB.out)))); (case aL => have := LMc72.out; omega); intro v250 w78 ho hb hg hat; rw [← Ny249.out] at ho; have n0_ := Aside0.mk (Kd.R_after (ok := (fun k_ => some k_ ≠ (.slice Ao79 t245.length co79 : Value).ownBlock)) (by (with_reducible repeat (first | apply Kd.R_alloc | apply Kd.R_drewN | apply Kd.R_drew)); exact Kd.R_mono HO_5.out (fun _ hk => ⟨hk.2, hk.1.2⟩)) hg hat); have n1_ := Aside0.mk (blk_grown (g := gb197) (o := .cells #[.int .u8 a0_0, .bool false, .bool true, .slice A0_3 l0_3.length c0_3] 29 (0, 0)) (by (with_reducible repeat (first | refine blk_drewN ?_ _ | refine blk_drew ?_ | refine blk_alloc ?_ _)); exact BK197.out) hg (Kd.R_ne HO244.out BK197.out (by decide))); have n2_ := Aside0.mk (Kd.R_after (ok := (fun k_ => some k_ ≠ (.slice none 0 0 : Value).ownBlock)) (by (with_reducible repeat (first | apply Kd.R_alloc | apply Kd.R_drewN | apply Kd.R_drew)); exact Kd.R_mono HO248.out (fun _ hk => ⟨hk.1.2, hk.2⟩)) hg hat); have n3_ := Aside0.mk (hb); have n4_ := Aside0.mk (ho); clear HO_5; clear BK197; clear HO248; clear HB; clear HO244; have HO_5 := n0_; have BK197 := n1_; have HO248 := n2_; have HB := n3_; have HO251 := n4_; clear n0_ n1_ n2_ n3_ n4_; clear ho hb hg hat))
                              go_ret2
                              exact ⟨_, by first | rfl | (simp [errW_none, errW_some] <;> rfl) | (simp [*, errW_none, errW_some] <;> rfl), by (with_reducible repeat (first | apply Kd.R_alloc | apply Kd.R_drewN | apply Kd.R_drew)); exact Kd.R_mono HO251.out (fun _ hk => trivial), by repeat (first | (with_reducible first | exact HB.out | apply below_alloc | apply pw_below_drewN | apply below_drew1 | refine below_set ?_ GE197.out) | exact HB.out)⟩
                            · rw [if_neg c72] at H
                              exact absurd H (by simp)
                        · replace c63 := Bool.eq_false_iff.mpr c63
                          subst c63
                          have H1 : ((redactorref03_Encode.f kj27 l0_3 a0_1).bind fun bt252 => (if ([] : List Int).length + bt252.1.length < 140737488355328 then (some ((([] : List Int) ++ bt252.1), 0)) else (none))) = some (r1, r2) := by rw [if_neg (show ¬ (false = true) by decide)] at H; exact H
                          clear H
                          have H := H1
                          clear H1
                          replace H := Option.bind_eq_some_iff.mp H
                          obtain ⟨⟨t252, t253⟩, A800, H⟩ := H
                          replace H : (if ([] : List Int).length + t252.length < 140737488355328 then (some ((([] : List Int) ++ t252), 0)) else (none)) = some (r1, r2) := H
                          have A80 := Aside0.mk A800
                          clear A800
                          by_cases c81 : ([] : List Int).length + t252.length < 140737488355328
                          · rw [if_pos c81] at H
                            have LMc81 := Aside0.mk c81
                            clear c81
                            obtain ⟨y256, hy256⟩ : ∃ y_ : List Int, y_ = (([] : List Int) ++ t252) := ⟨_, rfl⟩
                            replace H : (some (y256, 0)) = some (r1, r2) := by first | (rw [hy256]; with_reducible exact H) | (have H2_ := (Option.bind_some _ _).symm.trans H; rw [hy256]; with_reducible exact H2_) | (have H2_ := (Option.bind_some _ _).symm.trans H; with_reducible exact H2_) | with_reducible exact H | (rw [hy256]; exact H) | exact H
                            have Ny256 := Aside0.mk hy256
                            clear hy256
                            simp only [Option.some.injEq, Prod.mk.injEq] at H
                            obtain ⟨rfl, rfl⟩ := H
                            have hcz82_0 : wc.cell? ⟨gb197, 0, none⟩ = some (.int .u8 a0_0) := (blk_cell BK197.out 0).trans rfl
                            have hcz82_1 : wc.cell? ⟨gb197, 1, none⟩ = some (.bool a0_1) := (blk_cell BK197.out 1).trans rfl
                            have hcz82_2 : wc.cell? ⟨gb197, 2, none⟩ = some (.bool false) := (blk_cell BK197.out 2).trans rfl
                            have hcz82_3 : wc.cell? ⟨gb197, 3, none⟩ = some (.slice A0_3 l0_3.length c0_3) := (blk_cell BK197.out 3).trans rfl
                            have hfz82_0 := blk_frozen BK197.out 0
                            have hfz82_1 := blk_frozen BK197.out 1
                            have hfz82_2 := blk_frozen BK197.out 2
                            have hfz82_3 := blk_frozen BK197.out 3
                            go_wp2_with (first | ((with_reducible refine gate_callee (f := 45) rfl ?_); refine goesL_ (some 79) rfl rfl Tryd.func45 (by kernel_rfl) rfl #[.slice A0_3 l0_3.length c0_3, .bool a0_1] rfl (by (try simp only [List.map_toArray, List.map_cons, List.map_nil]); first | done | rfl | (simp only [List.length_drop, List.length_take]; rfl)) ?_; (with_reducible refine (redactorref03_Encode.calls kj27 _ _ l0_3 a0_1 t252 t253 _ ?side1 ?side2 A80.out).mono ?_); (case side1 => repeat (first | exact (Kd.C_below HR0_3.out HB.out) | (with_reducible refine Kd.C_alloc ?_ _) | (with_reducible refine Kd.C_drewN ?_ _) | (with_reducible refine Kd.C_drew ?_))); (case side2 => exact HC0_3.out); rintro e w83 ⟨v254, rfl, ho0, hb⟩; refine ⟨_, rfl, ?_⟩; have n0_ := Aside0.mk (Kd.R_elder' (by (with_reducible repeat (first | apply Kd.R_alloc | apply Kd.R_drewN | apply Kd.R_drew)); exact HO_5.out) (Kd.R_base ho0) hb); have n1_ := Aside0.mk (Kd.R_lower (Kd.R_new' ho0 (Kd.R_lt (by (with_reducible repeat (first | apply Kd.R_alloc | apply Kd.R_drewN | apply Kd.R_drew)); exact HO_5.out))) (below_size (by repeat (first | (with_reducible first | exact HB.out | apply below_alloc | apply pw_below_drewN | apply below_drew1 | refine below_set ?_ GE197.out) | exact HB.out)))); have n2_ := Aside0.mk (blk_below (g := gb197) (o := .cells #[.int .u8 a0_0, .bool a0_1, .bool false, .slice A0_3 l0_3.length c0_3] 29 (0, 0)) (by (with_reducible repeat (first | refine blk_drewN ?_ _ | refine blk_drew ?_ | refine blk_alloc ?_ _)); exact BK197.out) hb); have n3_ := Aside0.mk (below_step (by repeat (first | (with_reducible first | exact HB.out | apply below_alloc | apply pw_below_drewN | apply below_drew1 | refine below_set ?_ GE197.out) | exact HB.out)) hb); clear HO_5; clear BK197; clear HB; have HO_5 := n0_; have HO255 := n1_; have BK197 := n2_; have HB := n3_; clear n0_ n1_ n2_ n3_; (try clear hb); (try clear hb2); (try clear hk); (try clear hi); (try clear ho0); obtain ⟨Ao85, co85, eo85⟩ := Kd.R_slice HO255.out; subst eo85) | ((with_reducible refine gate_builtin (b := .append) (xs := #[.tmp 82, .tmp 83]) rfl ?_); at_builtin; refine Kd.R_append_rows (Kd.int .u8) (w0 := w) w.heap.size rfl (.tmp 82) (.tmp 83) 22 5 (.int .u8 0) 1 rfl Tryd.underlying22 info5 rfl (by decide) (by omega) (.slice none 0 0) ([] : List Int) t252 _ _ _ (fun k_ => some k_ ≠ (.slice Ao85 t252.length co85 : Value).ownBlock) (fun _ => False) rfl rfl ?aO ?aR (fun _ _ h => h) (fun _ h => h.elim) ?aF ?aB ?aS ?aL ?_; (case aR => repeat (first | exact (Kd.R_reads' HO255.out).2.2 | (with_reducible refine Kd.C_alloc ?_ _) | (with_reducible refine Kd.C_drewN ?_ _) | (with_reducible refine Kd.C_drew ?_))); (case aB => exact (by repeat (first | (with_reducible first | exact HB.out | apply below_alloc | apply pw_below_drewN | apply below_drew1 | refine below_set ?_ GE197.out) | exact HB.out))); (case aF => exact (fun k_ hk => Kd.fresh' (Kd.R_lt (by (with_reducible repeat (first | apply Kd.R_alloc | apply Kd.R_drewN | apply Kd.R_drew)); exact HO255.out)) k_ hk)); (case aO => exact (by (with_reducible repeat (first | apply Kd.R_alloc | apply Kd.R_drewN | apply Kd.R_drew)); exact Kd.R_mono HO_5.out (fun _ hk => hk.2))); (case aS => exact (below_size (by repeat (first | (with_reducible first | exact HB.out | apply below_alloc | apply pw_below_drewN | apply below_drew1 | refine below_set ?_ GE197.out) | exact HB.out)))); (case aL => have := LMc81.out; omega); intro v257 w84 ho hb hg hat; rw [← Ny256.out] at ho; have n0_ := Aside0.mk (blk_grown (g := gb197) (o := .cells #[.int .u8 a0_0, .bool a0_1, .bool false, .slice A0_3 l0_3.length c0_3] 29 (0, 0)) (by (with_reducible repeat (first | refine blk_drewN ?_ _ | refine blk_drew ?_ | refine blk_alloc ?_ _)); exact BK197.out) hg (Kd.R_ne HO_5.out BK197.out (by decide))); have n1_ := Aside0.mk (Kd.R_after (ok := (fun _ => True)) (by (with_reducible repeat (first | apply Kd.R_alloc | apply Kd.R_drewN | apply Kd.R_drew)); exact HO255.out) hg hat); have n2_ := Aside0.mk (hb); have n3_ := Aside0.mk (ho); clear BK197; clear HO255; clear HB; clear HO_5; have BK197 := n0_; have HO255 := n1_; have HB := n2_; have HO258 := n3_; clear n0_ n1_ n2_ n3_; clear ho hb hg hat))
                            go_ret2
                            exact ⟨_, by first | rfl | (simp [errW_none, errW_some] <;> rfl) | (simp [*, errW_none, errW_some] <;> rfl), by (with_reducible repeat (first | apply Kd.R_alloc | apply Kd.R_drewN | apply Kd.R_drew)); exact Kd.R_mono HO258.out (fun _ hk => trivial), by repeat (first | (with_reducible first | exact HB.out | apply below_alloc | apply pw_below_drewN | apply below_drew1 | refine below_set ?_ GE197.out) | exact HB.out)⟩
                          · rw [if_neg c81] at H
                            exact absurd H (by simp)

end Go.Proofs.YtcofbakhhcgbfaaDoor.PZ
