/- Functions of the program told as plain functions, and that each call comes to what its function says. Conditions: each contract names its own. (Written by xprint.py, a program of this session, by way of the print of the kit; not trusted: Lean checks it.) -/
import Derived.Test.YtcofbakhhcgbfaaDoorPZ0
import Derived.Test.YtcofbakhhcgbfaaDoorPZ1
import Derived.Test.YtcofbakhhcgbfaaDoorPZ4
import Derived.Test.YtcofbakhhcgbfaaDoorExtGl
import Derived.Test.YtcofbakhhcgbfaaDoorExtKnown
import Derived.Test.YtcofbakhhcgbfaaDoorExtNamed
import Derived.Test.YtcofbakhhcgbfaaDoorExtWith
namespace Go.Proofs.YtcofbakhhcgbfaaDoor.PX
end Go.Proofs.YtcofbakhhcgbfaaDoor.PX
namespace Go.Proofs.YtcofbakhhcgbfaaDoor.KX
end Go.Proofs.YtcofbakhhcgbfaaDoor.KX
namespace Go.Proofs.YtcofbakhhcgbfaaDoor.PZ
open Go.RowKit Go.Proofs.YtcofbakhhcgbfaaDoor.PX Go.Proofs.YtcofbakhhcgbfaaDoor.KX Go.Proofs.YtcofbakhhcgbfaaDoorW.PrintWords Go.Proofs.YtcofbakhhcgbfaaDoorW.PrintLast Go.Proofs.YtcofbakhhcgbfaaDoorW.PrintMore
attribute [local go_sem] max2_int min2_int max_two min_two max_three min_three max_four min_four   -- for this text's walks alone
set_option linter.unusedVariables false
set_option linter.unusedSimpArgs false

/-! ### redactorlaw04_CodecEncodes: function 8 -/
def redactorlaw04_CodecEncodes.j0 : Nat → List Int → Int → Bool → Bool → ByteArray → Bool → Int → Bool → Bool → List Int → Option (Bool)
  | 0, _, _, _, _, _, _, _, _, _, _ => none
  | k + 1, x1, x2, x3, x4, x5, x29, x277000, x277001, x277002, x277003 => if x29 = true then ((redactorlaw04_known.f k).bind fun t278 => (some t278)) else ((redactorlaw01_Cells.f k x1).bind fun t279 => ((redactorlaw04_encodes.f k x277000 x277001 x277002 x277003).bind fun t283 => ((codec_With.f x277000 x277001 x277002 x277003 t279).bind fun bt284 => ((redactorref04_Same.f k bt284.1 bt284.2.1 bt284.2.2.1 bt284.2.2.2 x277000 x277001 x277002 t279).bind fun t291 => (if t283 = true then (if t291 = true then ((redactorlaw04_encodes.f k (Int.tmod x2 5) x3 x4 t279).bind fun t292 => (if t292 = true then ((codec_Named.f x5).bind fun t293 => ((redactorref04_Named.f x5).bind fun t294 => (if t293 = t294 then ((some (([(⟨#[117, 116, 102, 45, 56]⟩ : ByteArray), (⟨#[117, 116, 102, 45, 49, 54]⟩ : ByteArray), (⟨#[108, 97, 116, 105, 110, 49]⟩ : ByteArray), (⟨#[]⟩ : ByteArray)] : List ByteArray) : List ByteArray)).bind fun y295 => (if 0 ≤ (Int.tmod x2 4) then (if (Int.tmod x2 4) < (y295.length : Int) then ((codec_Named.f (rdOf ByteArray.empty y295 (Int.tmod x2 4))).bind fun t299 => ((some (([(⟨#[117, 116, 102, 45, 56]⟩ : ByteArray), (⟨#[117, 116, 102, 45, 49, 54]⟩ : ByteArray), (⟨#[108, 97, 116, 105, 110, 49]⟩ : ByteArray), (⟨#[]⟩ : ByteArray)] : List ByteArray) : List ByteArray)).bind fun y300 => (if (Int.tmod x2 4) < (y300.length : Int) then ((redactorref04_Named.f (rdOf ByteArray.empty y300 (Int.tmod x2 4))).bind fun t304 => (some (t299 == t304))) else (none)))) else (none)) else (none))) else (some false)))) else (some false))) else (some false)) else (some false))))))
def redactorlaw04_CodecEncodes.f (k : Nat) (a0_0 : Int) (a0_1 : Bool) (a0_2 : Bool) (l0_3 : List Int) (l1 : List Int) (a2 : Int) (a3 : Bool) (a4 : Bool) (a5 : ByteArray) : Option (Bool) := if (l0_3.length : Int) > 200 then (redactorlaw04_CodecEncodes.j0 k l1 a2 a3 a4 a5 true a0_0 a0_1 a0_2 l0_3) else (if (a5.size : Int) > 100 then (redactorlaw04_CodecEncodes.j0 k l1 a2 a3 a4 a5 true a0_0 a0_1 a0_2 l0_3) else ((redactorlaw04_known.f k).bind fun t277 => (redactorlaw04_CodecEncodes.j0 k l1 a2 a3 a4 a5 (!t277) a0_0 a0_1 a0_2 l0_3)))
theorem redactorlaw04_CodecEncodes.mono_l : ∀ k, (∀ y0 y1 y2 y3 y4 y5 y6 y7 y8 y9, LeO (redactorlaw04_CodecEncodes.j0 k y0 y1 y2 y3 y4 y5 y6 y7 y8 y9) (redactorlaw04_CodecEncodes.j0 (k + 1) y0 y1 y2 y3 y4 y5 y6 y7 y8 y9))
  | 0 => fun _ _ _ _ _ _ _ _ _ _ r h => by simp [redactorlaw04_CodecEncodes.j0] at h
  | k + 1 => by
    have ih0 := redactorlaw04_CodecEncodes.mono_l k
    · intro y0 y1 y2 y3 y4 y5 y6 y7 y8 y9
      unfold redactorlaw04_CodecEncodes.j0
      repeat' first
      | (with_reducible exact ih0 _ _ _ _ _ _ _ _ _ _)
      | (with_reducible exact redactorlaw01_Cells.mono _ _)
      | (with_reducible exact redactorlaw04_encodes.mono _ _ _ _ _)
      | (with_reducible exact redactorlaw04_known.mono _)
      | (with_reducible exact redactorref04_Same.mono _ _ _ _ _ _ _ _ _)
      | (with_reducible exact LeO.refl _)
      | (with_reducible exact LeO.none _)
      | (with_reducible refine LeO.ite ?_ ?_)
      | (with_reducible refine LeO.bind ?_ (fun _ => ?_))
      | exact ih0 _ _ _ _ _ _ _ _ _ _
      | exact redactorlaw01_Cells.mono _ _
      | exact redactorlaw04_encodes.mono _ _ _ _ _
      | exact redactorlaw04_known.mono _
      | exact redactorref04_Same.mono _ _ _ _ _ _ _ _ _
      | exact LeO.none _
      | refine LeO.ite ?_ ?_
      | refine LeO.bind ?_ (fun _ => ?_)
theorem redactorlaw04_CodecEncodes.mono : ∀ a0 a1 a2 a3 a4 a5 a6 a7 a8 k, LeO (redactorlaw04_CodecEncodes.f k a0 a1 a2 a3 a4 a5 a6 a7 a8) (redactorlaw04_CodecEncodes.f (k + 1) a0 a1 a2 a3 a4 a5 a6 a7 a8) := by
  intro a0 a1 a2 a3 a4 a5 a6 a7 a8 k
  have ih0 := redactorlaw04_CodecEncodes.mono_l k
  unfold redactorlaw04_CodecEncodes.f
  repeat' first
      | (with_reducible exact ih0 _ _ _ _ _ _ _ _ _ _)
      | (with_reducible exact redactorlaw01_Cells.mono _ _)
      | (with_reducible exact redactorlaw04_encodes.mono _ _ _ _ _)
      | (with_reducible exact redactorlaw04_known.mono _)
      | (with_reducible exact redactorref04_Same.mono _ _ _ _ _ _ _ _ _)
      | (with_reducible exact LeO.refl _)
      | (with_reducible exact LeO.none _)
      | (with_reducible refine LeO.ite ?_ ?_)
      | (with_reducible refine LeO.bind ?_ (fun _ => ?_))
      | exact ih0 _ _ _ _ _ _ _ _ _ _
      | exact redactorlaw01_Cells.mono _ _
      | exact redactorlaw04_encodes.mono _ _ _ _ _
      | exact redactorlaw04_known.mono _
      | exact redactorref04_Same.mono _ _ _ _ _ _ _ _ _
      | exact LeO.none _
      | refine LeO.ite ?_ ?_
      | refine LeO.bind ?_ (fun _ => ?_)
def redactorlaw04_CodecEncodes.T8 : Bool × List (List Nat × List Nat) := (true, [([], []), ([0], [0]), ([1], [1]), ([1, 2], [1, 2]), ([3, 1], [3]), ([4], [4]), ([5, 4, 4], [4, 5]), ([4, 6], [4, 6]), ([7, 6], [7]), ([8], [8]), ([9, 8, 8], [8, 9]), ([8], [8]), ([11, 10, 8], [8, 11]), ([10, 12, 8], [8, 10, 12]), ([8, 13], [8, 13]), ([14, 12], [14]), ([15], [15]), ([15], [15]), ([17, 15], [15, 17]), ([16, 18, 15], [15, 16, 18]), ([19, 15], [15, 19]), ([20, 15, 15], [15, 20]), ([15], [15]), ([15], [15]), ([23, 15], [15, 23]), ([22, 24, 15], [15, 22, 24]), ([25, 15], [15, 25]), ([26, 21, 15], [15, 26]), ([21, 27, 15], [15, 21, 27]), ([15, 28], [15, 28]), ([29, 27, 0, 1, 2, 3, 4, 5, 6, 7, 8, 9, 10, 11, 12, 13, 14, 15, 16, 17, 18, 19, 20, 21, 22, 23, 24, 25, 26, 27, 28, 29], [29])])
def redactorlaw04_CodecEncodes.B8 : List Nat := [0, 1, 3, 7, 15, 31, 63, 127, 255, 511, 1023, 511, 4095, 8191, 16383, 32767, 65535, 65535, 196607, 524287, 1048575, 2097151, 65535, 65535, 8454143, 29425663, 62980095, 134217727, 268435455, 536870911, 1073741823]
theorem redactorlaw04_CodecEncodes.tab8 : rtab .any (opsOf Tryd.f8 8) = redactorlaw04_CodecEncodes.T8 := by kernel_rfl
theorem redactorlaw04_CodecEncodes.bits8 : waitsOk redactorlaw04_CodecEncodes.T8.2 redactorlaw04_CodecEncodes.B8 = true := by kernel_rfl
set_option maxHeartbeats 8000000 in
set_option maxRecDepth 100000 in
theorem redactorlaw04_CodecEncodes.calls (k : Nat) (a0_0 : Int) (a0_1 : Bool) (a0_2 : Bool) (A0_3 : Option Addr) (c0_3 : Nat) (l0_3 : List Int) (A1 : Option Addr) (c1 : Nat) (l1 : List Int) (a2 : Int) (a3 : Bool) (a4 : Bool) (a5 : ByteArray) (r : Bool) (w : World) (hr0_3 : Kd.C (Kd.int .i32) w A0_3 l0_3.length l0_3) (hc0_3 : l0_3.length ≤ c0_3) (hr1 : Kd.C (Kd.int .u8) w A1 l1.length l1) (hc1 : l1.length ≤ c1) (hGL : (Lib.Utf8Tabs 0 1) w) (hrt : Aside0 (r = true)) (h : redactorlaw04_CodecEncodes.f k a0_0 a0_1 a0_2 l0_3 l1 a2 a3 a4 a5 = some r) :
    Calls Tryd.prog 8 #[.agg #[.int .u8 a0_0, .bool a0_1, .bool a0_2, .slice A0_3 l0_3.length c0_3], .slice A1 l1.length c1, .int .u8 a2, .bool a3, .bool a4, .string a5] w fun e w' => e = .returned (.bool r) ∧ Below w.heap.size w w' := by
  have hu29 := Tryd.underlying29
  have HR0_3 := Aside0.mk hr0_3
  have HC0_3 := Aside0.mk hc0_3
  clear hr0_3 hc0_3
  have HR1 := Aside0.mk hr1
  have HC1 := Aside0.mk hc1
  clear hr1 hc1
  have HB := Aside0.mk (Below.refl w.heap.size w)
  have HGL := Aside0.mk hGL
  clear hGL
  have H : (if (l0_3.length : Int) > 200 then (redactorlaw04_CodecEncodes.j0 k l1 a2 a3 a4 a5 true a0_0 a0_1 a0_2 l0_3) else (if (a5.size : Int) > 100 then (redactorlaw04_CodecEncodes.j0 k l1 a2 a3 a4 a5 true a0_0 a0_1 a0_2 l0_3) else ((redactorlaw04_known.f k).bind fun t277 => (redactorlaw04_CodecEncodes.j0 k l1 a2 a3 a4 a5 (!t277) a0_0 a0_1 a0_2 l0_3)))) = some r := h
  clear h
  have HC7 := Aside0.mk H
  clear H
  go_enter Tryd.func8, Tryd.ntmps8
  go_upto_region 1 with (first | ((with_reducible refine gate_dst (N := 6) rfl ?_); (try (refine gate_guard (by rfl) ?_; dsimp only)); refine box_event ?hg (N := 6) ?hd (cs := #[.int .u8 a0_0, .bool a0_1, .bool a0_2, .slice A0_3 l0_3.length c0_3]) (t := 29) ?hr ?_; (case hd => rfl); (case hg => rfl); (case hr => first | (go_simp; done) | (go_simp; rfl)); intro gb276 hg w8 hbox hb; have n0_ := Aside0.mk (below_step (by repeat (first | (with_reducible first | exact HB.out | apply below_alloc | apply pw_below_drewN | apply below_drew1) | exact HB.out)) hb); have n1_ := Aside0.mk (hbox); have n2_ := Aside0.mk ((by rw [hg]; exact (below_size (by repeat (first | (with_reducible first | exact HB.out | apply below_alloc | apply pw_below_drewN | apply below_drew1) | exact HB.out))) : w.heap.size ≤ gb276)); have n3_ := Aside0.mk ((by rw [hg]; exact (below_size (by repeat (first | (with_reducible first | exact HB.out | apply below_alloc | apply pw_below_drewN | apply below_drew1) | exact HB.out))) : w.heap.size ≤ gb276)); clear HB; have HB := n0_; have BK276 := n1_; have GW276 := n2_; have GE276 := n3_; clear n0_ n1_ n2_ n3_; clear hb hbox hg))
  (try simp only [Act.put, List.setIfInBounds_toArray, List.set_cons_zero, List.set_cons_succ])
  go_cut [29] (fun v29 wc => ∃ (kq : Nat) (x29_6 : Bool), v29 = .bool x29_6 ∧ Aside0 (redactorlaw04_CodecEncodes.j0 kq l1 a2 a3 a4 a5 x29_6 a0_0 a0_1 a0_2 l0_3 = some r) ∧ Aside0 (kq ≤ k) ∧ Aside0 (wc.heap[gb276]? = some (.cells #[.int .u8 a0_0, .bool a0_1, .bool a0_2, (.slice A0_3 l0_3.length c0_3)] 29 (0, 0))) ∧ Aside0 (Below w.heap.size w wc))
  case first =>
    have H := HC7.out
    clear HC7
    by_cases c9 : (l0_3.length : Int) > 200
    · rw [if_pos c9] at H
      have c9b0 : decide (200 < (l0_3.length : Int)) = true := decide_eq_true c9
      have c9b1 : decide (200 < l0_3.length) = true := decide_eq_true (by omega)
      clear c9
      (first | rw [c9b0] | (simp only [i64_w, i32_w]; rw [c9b0]) | skip)
      have H' := Aside0.mk H
      clear H
      have hcz10_0 : w8.cell? ⟨gb276, 0, none⟩ = some (.int .u8 a0_0) := (blk_cell BK276.out 0).trans rfl
      have hcz10_1 : w8.cell? ⟨gb276, 1, none⟩ = some (.bool a0_1) := (blk_cell BK276.out 1).trans rfl
      have hcz10_2 : w8.cell? ⟨gb276, 2, none⟩ = some (.bool a0_2) := (blk_cell BK276.out 2).trans rfl
      have hcz10_3 : w8.cell? ⟨gb276, 3, none⟩ = some (.slice A0_3 l0_3.length c0_3) := (blk_cell BK276.out 3).trans rfl
      have hfz10_0 := blk_frozen BK276.out 0
      have hfz10_1 := blk_frozen BK276.out 1
      have hfz10_2 := blk_frozen BK276.out 2
      have hfz10_3 := blk_frozen BK276.out 3
      go_wp2
      go_meet
      case rel => exact ⟨_, (true), (by first | rfl | (simp; done) | (simp [*]; done)), H', ⟨by first | omega | exact Nat.le_refl _⟩, ⟨by (with_reducible repeat (first | refine blk_drewN ?_ _ | refine blk_drew ?_ | refine blk_alloc ?_ _)); exact BK276.out⟩, ⟨by repeat (first | (with_reducible first | exact HB.out | apply below_alloc | apply pw_below_drewN | apply below_drew1 | refine below_set ?_ GE276.out) | exact HB.out)⟩⟩
    · rw [if_neg c9] at H
      have c9b0 : decide (200 < (l0_3.length : Int)) = false := decide_eq_false c9
      have c9b1 : decide (200 < l0_3.length) = false := decide_eq_false (by omega)
      clear c9
      (first | rw [c9b0] | (simp only [i64_w, i32_w]; rw [c9b0]) | skip)
      by_cases c11 : (a5.size : Int) > 100
      · rw [if_pos c11] at H
        have c11b0 : decide (100 < (a5.size : Int)) = true := decide_eq_true c11
        have c11b1 : decide (100 < a5.size) = true := decide_eq_true (by omega)
        clear c11
        have H' := Aside0.mk H
        clear H
        have hcz12_0 : w8.cell? ⟨gb276, 0, none⟩ = some (.int .u8 a0_0) := (blk_cell BK276.out 0).trans rfl
        have hcz12_1 : w8.cell? ⟨gb276, 1, none⟩ = some (.bool a0_1) := (blk_cell BK276.out 1).trans rfl
        have hcz12_2 : w8.cell? ⟨gb276, 2, none⟩ = some (.bool a0_2) := (blk_cell BK276.out 2).trans rfl
        have hcz12_3 : w8.cell? ⟨gb276, 3, none⟩ = some (.slice A0_3 l0_3.length c0_3) := (blk_cell BK276.out 3).trans rfl
        have hfz12_0 := blk_frozen BK276.out 0
        have hfz12_1 := blk_frozen BK276.out 1
        have hfz12_2 := blk_frozen BK276.out 2
        have hfz12_3 := blk_frozen BK276.out 3
        go_wp2
        go_meet
        case rel => exact ⟨_, (true), (by first | rfl | (simp; done) | (simp [*]; done)), H', ⟨by first | omega | exact Nat.le_refl _⟩, ⟨by (with_reducible repeat (first | refine blk_drewN ?_ _ | refine blk_drew ?_ | refine blk_alloc ?_ _)); exact BK276.out⟩, ⟨by repeat (first | (with_reducible first | exact HB.out | apply below_alloc | apply pw_below_drewN | apply below_drew1 | refine below_set ?_ GE276.out) | exact HB.out)⟩⟩
      · rw [if_neg c11] at H
        have c11b0 : decide (100 < (a5.size : Int)) = false := decide_eq_false c11
        have c11b1 : decide (100 < a5.size) = false := decide_eq_false (by omega)
        clear c11
        replace H := Option.bind_eq_some_iff.mp H
        obtain ⟨t277, A130, H⟩ := H
        replace H : (redactorlaw04_CodecEncodes.j0 k l1 a2 a3 a4 a5 (!t277) a0_0 a0_1 a0_2 l0_3) = some r := H
        have A13 := Aside0.mk A130
        clear A130
        have H' := Aside0.mk H
        clear H
        have hcz14_0 : w8.cell? ⟨gb276, 0, none⟩ = some (.int .u8 a0_0) := (blk_cell BK276.out 0).trans rfl
        have hcz14_1 : w8.cell? ⟨gb276, 1, none⟩ = some (.bool a0_1) := (blk_cell BK276.out 1).trans rfl
        have hcz14_2 : w8.cell? ⟨gb276, 2, none⟩ = some (.bool a0_2) := (blk_cell BK276.out 2).trans rfl
        have hcz14_3 : w8.cell? ⟨gb276, 3, none⟩ = some (.slice A0_3 l0_3.length c0_3) := (blk_cell BK276.out 3).trans rfl
        have hfz14_0 := blk_frozen BK276.out 0
        have hfz14_1 := blk_frozen BK276.out 1
        have hfz14_2 := blk_frozen BK276.out 2
        have hfz14_3 := blk_frozen BK276.out 3
        go_wp2_with (first | (go_at_call 9; (with_reducible refine (redactorlaw04_known.calls k  t277 _ ?side1 A13.out).mono ?_); (case side1 => refine gl_below HGL.out ?_; repeat (first | (with_reducible first | exact HB.out | apply below_alloc | apply pw_below_drewN | apply below_drew1 | refine below_set ?_ GE276.out) | exact HB.out)); rintro e w15 ⟨rfl, hb⟩; have n0_ := Aside0.mk (blk_below (g := gb276) (o := .cells #[.int .u8 a0_0, .bool a0_1, .bool a0_2, .slice A0_3 l0_3.length c0_3] 29 (0, 0)) (by (with_reducible repeat (first | refine blk_drewN ?_ _ | refine blk_drew ?_ | refine blk_alloc ?_ _)); exact BK276.out) hb); have n1_ := Aside0.mk (below_step (by repeat (first | (with_reducible first | exact HB.out | apply below_alloc | apply pw_below_drewN | apply below_drew1 | refine below_set ?_ GE276.out) | exact HB.out)) hb); clear BK276; clear HB; have BK276 := n0_; have HB := n1_; clear n0_ n1_; (try clear hb); (try clear hb2); (try clear hk); (try clear hi); (try clear A13)))
        go_meet
        case rel => exact ⟨_, (!t277), (by first | rfl | (simp; done) | (simp [*]; done)), H', ⟨by first | omega | exact Nat.le_refl _⟩, ⟨by (with_reducible repeat (first | refine blk_drewN ?_ _ | refine blk_drew ?_ | refine blk_alloc ?_ _)); exact BK276.out⟩, ⟨by repeat (first | (with_reducible first | exact HB.out | apply below_alloc | apply pw_below_drewN | apply below_drew1 | refine below_set ?_ GE276.out) | exact HB.out)⟩⟩
  case rest =>
    clear HC7
    try clear c1
    try clear p2
    try clear c8
    try clear c9
    try clear c9b0
    try clear c9b1
    try clear c11
    try clear c11b0
    try clear c11b1
    try clear hcz10_0
    try clear hcz10_1
    try clear hcz10_2
    try clear hcz10_3
    try clear hcz12_0
    try clear hcz12_1
    try clear hcz12_2
    try clear hcz12_3
    try clear hcz14_0
    try clear hcz14_1
    try clear hcz14_2
    try clear hcz14_3
    try clear hfz10_0
    try clear hfz10_1
    try clear hfz10_2
    try clear hfz10_3
    try clear hfz12_0
    try clear hfz12_1
    try clear hfz12_2
    try clear hfz12_3
    try clear hfz14_0
    try clear hfz14_1
    try clear hfz14_2
    try clear hfz14_3
    obtain ⟨kq, x29_6, rfl, HA, HJ6, BK276, HB⟩ := hcut
    cases kq with
    | zero => exact absurd HA.out (by simp [redactorlaw04_CodecEncodes.j0])
    | succ kj6 =>
      have H := HA.out
      clear HA
      simp only [redactorlaw04_CodecEncodes.j0] at H
      by_cases c16 : x29_6 = true
      · subst c16
        have H1 : ((redactorlaw04_known.f kj6).bind fun t278 => (some t278)) = some r := by rw [if_pos rfl] at H; exact H
        clear H
        have H := H1
        clear H1
        replace H := Option.bind_eq_some_iff.mp H
        obtain ⟨t278, A170, H⟩ := H
        replace H : (some t278) = some r := H
        have A17 := Aside0.mk A170
        clear A170
        obtain rfl := Option.some.inj H
        go_wp2_with (first | ((with_reducible refine gate_callee (f := 9) rfl ?_); refine goesL_ (some 30) rfl rfl Tryd.func9 (by kernel_rfl) rfl #[] rfl (by (try simp only [List.map_toArray, List.map_cons, List.map_nil]); first | done | rfl | (simp only [List.length_drop, List.length_take]; rfl)) ?_; (with_reducible refine (redactorlaw04_known.calls kj6  t278 _ ?side1 A17.out).mono ?_); (case side1 => refine gl_below HGL.out ?_; repeat (first | (with_reducible first | exact HB.out | apply below_alloc | apply pw_below_drewN | apply below_drew1 | refine below_set ?_ GE276.out) | exact HB.out)); rintro e w18 ⟨rfl, hb⟩; refine ⟨_, rfl, ?_⟩; have n0_ := Aside0.mk (blk_below (g := gb276) (o := .cells #[.int .u8 a0_0, .bool a0_1, .bool a0_2, .slice A0_3 l0_3.length c0_3] 29 (0, 0)) (by (with_reducible repeat (first | refine blk_drewN ?_ _ | refine blk_drew ?_ | refine blk_alloc ?_ _)); exact BK276.out) hb); have n1_ := Aside0.mk (below_step (by repeat (first | (with_reducible first | exact HB.out | apply below_alloc | apply pw_below_drewN | apply below_drew1 | refine below_set ?_ GE276.out) | exact HB.out)) hb); clear BK276; clear HB; have BK276 := n0_; have HB := n1_; clear n0_ n1_; (try clear hb); (try clear hb2); (try clear hk); (try clear hi)))
        all_goals go_ret
        all_goals exact ⟨by first | rfl | (simp [errW_none, errW_some] <;> rfl) | (simp [*, errW_none, errW_some] <;> rfl), by repeat (first | (with_reducible first | exact HB.out | apply below_alloc | apply pw_below_drewN | apply below_drew1 | refine below_set ?_ GE276.out) | exact HB.out)⟩
      · replace c16 := Bool.eq_false_iff.mpr c16
        subst c16
        have H1 : ((redactorlaw01_Cells.f kj6 l1).bind fun t279 => ((redactorlaw04_encodes.f kj6 a0_0 a0_1 a0_2 l0_3).bind fun t283 => ((codec_With.f a0_0 a0_1 a0_2 l0_3 t279).bind fun bt284 => ((redactorref04_Same.f kj6 bt284.1 bt284.2.1 bt284.2.2.1 bt284.2.2.2 a0_0 a0_1 a0_2 t279).bind fun t291 => (if t283 = true then (if t291 = true then ((redactorlaw04_encodes.f kj6 (Int.tmod a2 5) a3 a4 t279).bind fun t292 => (if t292 = true then ((codec_Named.f a5).bind fun t293 => ((redactorref04_Named.f a5).bind fun t294 => (if t293 = t294 then ((some (([(⟨#[117, 116, 102, 45, 56]⟩ : ByteArray), (⟨#[117, 116, 102, 45, 49, 54]⟩ : ByteArray), (⟨#[108, 97, 116, 105, 110, 49]⟩ : ByteArray), (⟨#[]⟩ : ByteArray)] : List ByteArray) : List ByteArray)).bind fun y295 => (if 0 ≤ (Int.tmod a2 4) then (if (Int.tmod a2 4) < (y295.length : Int) then ((codec_Named.f (rdOf ByteArray.empty y295 (Int.tmod a2 4))).bind fun t299 => ((some (([(⟨#[117, 116, 102, 45, 56]⟩ : ByteArray), (⟨#[117, 116, 102, 45, 49, 54]⟩ : ByteArray), (⟨#[108, 97, 116, 105, 110, 49]⟩ : ByteArray), (⟨#[]⟩ : ByteArray)] : List ByteArray) : List ByteArray)).bind fun y300 => (if (Int.tmod a2 4) < (y300.length : Int) then ((redactorref04_Named.f (rdOf ByteArray.empty y300 (Int.tmod a2 4))).bind fun t304 => (some (t299 == t304))) else (none)))) else (none)) else (none))) else (some false)))) else (some false))) else (some false)) else (some false)))))) = some r := by rw [if_neg (show ¬ (false = true) by decide)] at H; exact H
        clear H
        have H := H1
        clear H1
        replace H := Option.bind_eq_some_iff.mp H
        obtain ⟨t279, A190, H⟩ := H
        replace H : ((redactorlaw04_encodes.f kj6 a0_0 a0_1 a0_2 l0_3).bind fun t283 => ((codec_With.f a0_0 a0_1 a0_2 l0_3 t279).bind fun bt284 => ((redactorref04_Same.f kj6 bt284.1 bt284.2.1 bt284.2.2.1 bt284.2.2.2 a0_0 a0_1 a0_2 t279).bind fun t291 => (if t283 = true then (if t291 = true then ((redactorlaw04_encodes.f kj6 (Int.tmod a2 5) a3 a4 t279).bind fun t292 => (if t292 = true then ((codec_Named.f a5).bind fun t293 => ((redactorref04_Named.f a5).bind fun t294 => (if t293 = t294 then ((some (([(⟨#[117, 116, 102, 45, 56]⟩ : ByteArray), (⟨#[117, 116, 102, 45, 49, 54]⟩ : ByteArray), (⟨#[108, 97, 116, 105, 110, 49]⟩ : ByteArray), (⟨#[]⟩ : ByteArray)] : List ByteArray) : List ByteArray)).bind fun y295 => (if 0 ≤ (Int.tmod a2 4) then (if (Int.tmod a2 4) < (y295.length : Int) then ((codec_Named.f (rdOf ByteArray.empty y295 (Int.tmod a2 4))).bind fun t299 => ((some (([(⟨#[117, 116, 102, 45, 56]⟩ : ByteArray), (⟨#[117, 116, 102, 45, 49, 54]⟩ : ByteArray), (⟨#[108, 97, 116, 105, 110, 49]⟩ : ByteArray), (⟨#[]⟩ : ByteArray)] : List ByteArray) : List ByteArray)).bind fun y300 => (if (Int.tmod a2 4) < (y300.length : Int) then ((redactorref04_Named.f (rdOf ByteArray.empty y300 (Int.tmod a2 4))).bind fun t304 => (some (t299 == t304))) else (none)))) else (none)) else (none))) else (some false)))) else (some false))) else (some false)) else (some false))))) = some r := H
        have A19 := Aside0.mk A190
        clear A190
        replace H := Option.bind_eq_some_iff.mp H
        obtain ⟨t283, A200, H⟩ := H
        replace H : ((codec_With.f a0_0 a0_1 a0_2 l0_3 t279).bind fun bt284 => ((redactorref04_Same.f kj6 bt284.1 bt284.2.1 bt284.2.2.1 bt284.2.2.2 a0_0 a0_1 a0_2 t279).bind fun t291 => (if t283 = true then (if t291 = true then ((redactorlaw04_encodes.f kj6 (Int.tmod a2 5) a3 a4 t279).bind fun t292 => (if t292 = true then ((codec_Named.f a5).bind fun t293 => ((redactorref04_Named.f a5).bind fun t294 => (if t293 = t294 then ((some (([(⟨#[117, 116, 102, 45, 56]⟩ : ByteArray), (⟨#[117, 116, 102, 45, 49, 54]⟩ : ByteArray), (⟨#[108, 97, 116, 105, 110, 49]⟩ : ByteArray), (⟨#[]⟩ : ByteArray)] : List ByteArray) : List ByteArray)).bind fun y295 => (if 0 ≤ (Int.tmod a2 4) then (if (Int.tmod a2 4) < (y295.length : Int) then ((codec_Named.f (rdOf ByteArray.empty y295 (Int.tmod a2 4))).bind fun t299 => ((some (([(⟨#[117, 116, 102, 45, 56]⟩ : ByteArray), (⟨#[117, 116, 102, 45, 49, 54]⟩ : ByteArray), (⟨#[108, 97, 116, 105, 110, 49]⟩ : ByteArray), (⟨#[]⟩ : ByteArray)] : List ByteArray) : List ByteArray)).bind fun y300 => (if (Int.tmod a2 4) < (y300.length : Int) then ((redactorref04_Named.f (rdOf ByteArray.empty y300 (Int.tmod a2 4))).bind fun t304 => (some (t299 == t304))) else (none)))) else (none)) else (none))) else (some false)))) else (some false))) else (some false)) else (some false)))) = some r := H
        have A20 := Aside0.mk A200
        clear A200
        replace H := Option.bind_eq_some_iff.mp H
        obtain ⟨⟨t284, t285, t286, t287⟩, A210, H⟩ := H
        replace H : ((redactorref04_Same.f kj6 t284 t285 t286 t287 a0_0 a0_1 a0_2 t279).bind fun t291 => (if t283 = true then (if t291 = true then ((redactorlaw04_encodes.f kj6 (Int.tmod a2 5) a3 a4 t279).bind fun t292 => (if t292 = true then ((codec_Named.f a5).bind fun t293 => ((redactorref04_Named.f a5).bind fun t294 => (if t293 = t294 then ((some (([(⟨#[117, 116, 102, 45, 56]⟩ : ByteArray), (⟨#[117, 116, 102, 45, 49, 54]⟩ : ByteArray), (⟨#[108, 97, 116, 105, 110, 49]⟩ : ByteArray), (⟨#[]⟩ : ByteArray)] : List ByteArray) : List ByteArray)).bind fun y295 => (if 0 ≤ (Int.tmod a2 4) then (if (Int.tmod a2 4) < (y295.length : Int) then ((codec_Named.f (rdOf ByteArray.empty y295 (Int.tmod a2 4))).bind fun t299 => ((some (([(⟨#[117, 116, 102, 45, 56]⟩ : ByteArray), (⟨#[117, 116, 102, 45, 49, 54]⟩ : ByteArray), (⟨#[108, 97, 116, 105, 110, 49]⟩ : ByteArray), (⟨#[]⟩ : ByteArray)] : List ByteArray) : List ByteArray)).bind fun y300 => (if (Int.tmod a2 4) < (y300.length : Int) then ((redactorref04_Named.f (rdOf ByteArray.empty y300 (Int.tmod a2 4))).bind fun t304 => (some (t299 == t304))) else (none)))) else (none)) else (none))) else (some false)))) else (some false))) else (some false)) else (some false))) = some r := H
        have A21 := Aside0.mk A210
        clear A210
        replace H := Option.bind_eq_some_iff.mp H
        obtain ⟨t291, A220, H⟩ := H
        replace H : (if t283 = true then (if t291 = true then ((redactorlaw04_encodes.f kj6 (Int.tmod a2 5) a3 a4 t279).bind fun t292 => (if t292 = true then ((codec_Named.f a5).bind fun t293 => ((redactorref04_Named.f a5).bind fun t294 => (if t293 = t294 then ((some (([(⟨#[117, 116, 102, 45, 56]⟩ : ByteArray), (⟨#[117, 116, 102, 45, 49, 54]⟩ : ByteArray), (⟨#[108, 97, 116, 105, 110, 49]⟩ : ByteArray), (⟨#[]⟩ : ByteArray)] : List ByteArray) : List ByteArray)).bind fun y295 => (if 0 ≤ (Int.tmod a2 4) then (if (Int.tmod a2 4) < (y295.length : Int) then ((codec_Named.f (rdOf ByteArray.empty y295 (Int.tmod a2 4))).bind fun t299 => ((some (([(⟨#[117, 116, 102, 45, 56]⟩ : ByteArray), (⟨#[117, 116, 102, 45, 49, 54]⟩ : ByteArray), (⟨#[108, 97, 116, 105, 110, 49]⟩ : ByteArray), (⟨#[]⟩ : ByteArray)] : List ByteArray) : List ByteArray)).bind fun y300 => (if (Int.tmod a2 4) < (y300.length : Int) then ((redactorref04_Named.f (rdOf ByteArray.empty y300 (Int.tmod a2 4))).bind fun t304 => (some (t299 == t304))) else (none)))) else (none)) else (none))) else (some false)))) else (some false))) else (some false)) else (some false)) = some r := H
        have A22 := Aside0.mk A220
        clear A220
        by_cases c23 : t283 = true
        · subst c23
          have H1 : (if t291 = true then ((redactorlaw04_encodes.f kj6 (Int.tmod a2 5) a3 a4 t279).bind fun t292 => (if t292 = true then ((codec_Named.f a5).bind fun t293 => ((redactorref04_Named.f a5).bind fun t294 => (if t293 = t294 then ((some (([(⟨#[117, 116, 102, 45, 56]⟩ : ByteArray), (⟨#[117, 116, 102, 45, 49, 54]⟩ : ByteArray), (⟨#[108, 97, 116, 105, 110, 49]⟩ : ByteArray), (⟨#[]⟩ : ByteArray)] : List ByteArray) : List ByteArray)).bind fun y295 => (if 0 ≤ (Int.tmod a2 4) then (if (Int.tmod a2 4) < (y295.length : Int) then ((codec_Named.f (rdOf ByteArray.empty y295 (Int.tmod a2 4))).bind fun t299 => ((some (([(⟨#[117, 116, 102, 45, 56]⟩ : ByteArray), (⟨#[117, 116, 102, 45, 49, 54]⟩ : ByteArray), (⟨#[108, 97, 116, 105, 110, 49]⟩ : ByteArray), (⟨#[]⟩ : ByteArray)] : List ByteArray) : List ByteArray)).bind fun y300 => (if (Int.tmod a2 4) < (y300.length : Int) then ((redactorref04_Named.f (rdOf ByteArray.empty y300 (Int.tmod a2 4))).bind fun t304 => (some (t299 == t304))) else (none)))) else (none)) else (none))) else (some false)))) else (some false))) else (some false)) = some r := by rw [if_pos rfl] at H; exact H
          clear H
          have H := H1
          clear H1
          by_cases c24 : t291 = true
          · subst c24
            have H1 : ((redactorlaw04_encodes.f kj6 (Int.tmod a2 5) a3 a4 t279).bind fun t292 => (if t292 = true then ((codec_Named.f a5).bind fun t293 => ((redactorref04_Named.f a5).bind fun t294 => (if t293 = t294 then ((some (([(⟨#[117, 116, 102, 45, 56]⟩ : ByteArray), (⟨#[117, 116, 102, 45, 49, 54]⟩ : ByteArray), (⟨#[108, 97, 116, 105, 110, 49]⟩ : ByteArray), (⟨#[]⟩ : ByteArray)] : List ByteArray) : List ByteArray)).bind fun y295 => (if 0 ≤ (Int.tmod a2 4) then (if (Int.tmod a2 4) < (y295.length : Int) then ((codec_Named.f (rdOf ByteArray.empty y295 (Int.tmod a2 4))).bind fun t299 => ((some (([(⟨#[117, 116, 102, 45, 56]⟩ : ByteArray), (⟨#[117, 116, 102, 45, 49, 54]⟩ : ByteArray), (⟨#[108, 97, 116, 105, 110, 49]⟩ : ByteArray), (⟨#[]⟩ : ByteArray)] : List ByteArray) : List ByteArray)).bind fun y300 => (if (Int.tmod a2 4) < (y300.length : Int) then ((redactorref04_Named.f (rdOf ByteArray.empty y300 (Int.tmod a2 4))).bind fun t304 => (some (t299 == t304))) else (none)))) else (none)) else (none))) else (some false)))) else (some false))) = some r := by rw [if_pos rfl] at H; exact H
            clear H
            have H := H1
            clear H1
            replace H := Option.bind_eq_some_iff.mp H
            obtain ⟨t292, A250, H⟩ := H
            replace H : (if t292 = true then ((codec_Named.f a5).bind fun t293 => ((redactorref04_Named.f a5).bind fun t294 => (if t293 = t294 then ((some (([(⟨#[117, 116, 102, 45, 56]⟩ : ByteArray), (⟨#[117, 116, 102, 45, 49, 54]⟩ : ByteArray), (⟨#[108, 97, 116, 105, 110, 49]⟩ : ByteArray), (⟨#[]⟩ : ByteArray)] : List ByteArray) : List ByteArray)).bind fun y295 => (if 0 ≤ (Int.tmod a2 4) then (if (Int.tmod a2 4) < (y295.length : Int) then ((codec_Named.f (rdOf ByteArray.empty y295 (Int.tmod a2 4))).bind fun t299 => ((some (([(⟨#[117, 116, 102, 45, 56]⟩ : ByteArray), (⟨#[117, 116, 102, 45, 49, 54]⟩ : ByteArray), (⟨#[108, 97, 116, 105, 110, 49]⟩ : ByteArray), (⟨#[]⟩ : ByteArray)] : List ByteArray) : List ByteArray)).bind fun y300 => (if (Int.tmod a2 4) < (y300.length : Int) then ((redactorref04_Named.f (rdOf ByteArray.empty y300 (Int.tmod a2 4))).bind fun t304 => (some (t299 == t304))) else (none)))) else (none)) else (none))) else (some false)))) else (some false)) = some r := H
            have A25 := Aside0.mk A250
            clear A250
            by_cases c26 : t292 = true
            · subst c26
              have H1 : ((codec_Named.f a5).bind fun t293 => ((redactorref04_Named.f a5).bind fun t294 => (if t293 = t294 then ((some (([(⟨#[117, 116, 102, 45, 56]⟩ : ByteArray), (⟨#[117, 116, 102, 45, 49, 54]⟩ : ByteArray), (⟨#[108, 97, 116, 105, 110, 49]⟩ : ByteArray), (⟨#[]⟩ : ByteArray)] : List ByteArray) : List ByteArray)).bind fun y295 => (if 0 ≤ (Int.tmod a2 4) then (if (Int.tmod a2 4) < (y295.length : Int) then ((codec_Named.f (rdOf ByteArray.empty y295 (Int.tmod a2 4))).bind fun t299 => ((some (([(⟨#[117, 116, 102, 45, 56]⟩ : ByteArray), (⟨#[117, 116, 102, 45, 49, 54]⟩ : ByteArray), (⟨#[108, 97, 116, 105, 110, 49]⟩ : ByteArray), (⟨#[]⟩ : ByteArray)] : List ByteArray) : List ByteArray)).bind fun y300 => (if (Int.tmod a2 4) < (y300.length : Int) then ((redactorref04_Named.f (rdOf ByteArray.empty y300 (Int.tmod a2 4))).bind fun t304 => (some (t299 == t304))) else (none)))) else (none)) else (none))) else (some false)))) = some r := by rw [if_pos rfl] at H; exact H
              clear H
              have H := H1
              clear H1
              replace H := Option.bind_eq_some_iff.mp H
              obtain ⟨t293, A270, H⟩ := H
              replace H : ((redactorref04_Named.f a5).bind fun t294 => (if t293 = t294 then ((some (([(⟨#[117, 116, 102, 45, 56]⟩ : ByteArray), (⟨#[117, 116, 102, 45, 49, 54]⟩ : ByteArray), (⟨#[108, 97, 116, 105, 110, 49]⟩ : ByteArray), (⟨#[]⟩ : ByteArray)] : List ByteArray) : List ByteArray)).bind fun y295 => (if 0 ≤ (Int.tmod a2 4) then (if (Int.tmod a2 4) < (y295.length : Int) then ((codec_Named.f (rdOf ByteArray.empty y295 (Int.tmod a2 4))).bind fun t299 => ((some (([(⟨#[117, 116, 102, 45, 56]⟩ : ByteArray), (⟨#[117, 116, 102, 45, 49, 54]⟩ : ByteArray), (⟨#[108, 97, 116, 105, 110, 49]⟩ : ByteArray), (⟨#[]⟩ : ByteArray)] : List ByteArray) : List ByteArray)).bind fun y300 => (if (Int.tmod a2 4) < (y300.length : Int) then ((redactorref04_Named.f (rdOf ByteArray.empty y300 (Int.tmod a2 4))).bind fun t304 => (some (t299 == t304))) else (none)))) else (none)) else (none))) else (some false))) = some r := H
              have A27 := Aside0.mk A270
              clear A270
              replace H := Option.bind_eq_some_iff.mp H
              obtain ⟨t294, A280, H⟩ := H
              replace H : (if t293 = t294 then ((some (([(⟨#[117, 116, 102, 45, 56]⟩ : ByteArray), (⟨#[117, 116, 102, 45, 49, 54]⟩ : ByteArray), (⟨#[108, 97, 116, 105, 110, 49]⟩ : ByteArray), (⟨#[]⟩ : ByteArray)] : List ByteArray) : List ByteArray)).bind fun y295 => (if 0 ≤ (Int.tmod a2 4) then (if (Int.tmod a2 4) < (y295.length : Int) then ((codec_Named.f (rdOf ByteArray.empty y295 (Int.tmod a2 4))).bind fun t299 => ((some (([(⟨#[117, 116, 102, 45, 56]⟩ : ByteArray), (⟨#[117, 116, 102, 45, 49, 54]⟩ : ByteArray), (⟨#[108, 97, 116, 105, 110, 49]⟩ : ByteArray), (⟨#[]⟩ : ByteArray)] : List ByteArray) : List ByteArray)).bind fun y300 => (if (Int.tmod a2 4) < (y300.length : Int) then ((redactorref04_Named.f (rdOf ByteArray.empty y300 (Int.tmod a2 4))).bind fun t304 => (some (t299 == t304))) else (none)))) else (none)) else (none))) else (some false)) = some r := H
              have A28 := Aside0.mk A280
              clear A280
              by_cases c29 : t293 = t294
              · rw [if_pos c29] at H
                have c29b0 : (t293 == t294) = true := beq_iff_eq.mpr c29
                have c29b1 : (t293 != t294) = false := bne_eq_false_iff_eq.mpr c29
                clear c29
                obtain ⟨y295, hy295⟩ : ∃ y_ : List ByteArray, y_ = (([(⟨#[117, 116, 102, 45, 56]⟩ : ByteArray), (⟨#[117, 116, 102, 45, 49, 54]⟩ : ByteArray), (⟨#[108, 97, 116, 105, 110, 49]⟩ : ByteArray), (⟨#[]⟩ : ByteArray)] : List ByteArray)) := ⟨_, rfl⟩
                replace H : (if 0 ≤ (Int.tmod a2 4) then (if (Int.tmod a2 4) < (y295.length : Int) then ((codec_Named.f (rdOf ByteArray.empty y295 (Int.tmod a2 4))).bind fun t299 => ((some (([(⟨#[117, 116, 102, 45, 56]⟩ : ByteArray), (⟨#[117, 116, 102, 45, 49, 54]⟩ : ByteArray), (⟨#[108, 97, 116, 105, 110, 49]⟩ : ByteArray), (⟨#[]⟩ : ByteArray)] : List ByteArray) : List ByteArray)).bind fun y300 => (if (Int.tmod a2 4) < (y300.length : Int) then ((redactorref04_Named.f (rdOf ByteArray.empty y300 (Int.tmod a2 4))).bind fun t304 => (some (t299 == t304))) else (none)))) else (none)) else (none)) = some r := by first | (rw [hy295]; with_reducible exact H) | (have H2_ := (Option.bind_some _ _).symm.trans H; rw [hy295]; with_reducible exact H2_) | (have H2_ := (Option.bind_some _ _).symm.trans H; with_reducible exact H2_) | with_reducible exact H | (rw [hy295]; exact H) | exact H
                have Ny295 := Aside0.mk hy295
                clear hy295
                obtain ⟨ji30, hji30⟩ : ∃ j_ : Int, (Int.tmod a2 4) = j_ := ⟨_, rfl⟩
                replace H : (if 0 ≤ (ji30) then (if (ji30) < (y295.length : Int) then ((codec_Named.f (rdOf ByteArray.empty y295 (ji30))).bind fun t299 => ((some (([(⟨#[117, 116, 102, 45, 56]⟩ : ByteArray), (⟨#[117, 116, 102, 45, 49, 54]⟩ : ByteArray), (⟨#[108, 97, 116, 105, 110, 49]⟩ : ByteArray), (⟨#[]⟩ : ByteArray)] : List ByteArray) : List ByteArray)).bind fun y300 => (if (ji30) < (y300.length : Int) then ((redactorref04_Named.f (rdOf ByteArray.empty y300 (ji30))).bind fun t304 => (some (t299 == t304))) else (none)))) else (none)) else (none)) = some r := by first | (rw [hji30] at H; exact H) | (simp only [hji30] at H ⊢; exact H)
                (try rw [hji30] at A19)
                (try rw [hji30] at A20)
                (try rw [hji30] at A21)
                (try rw [hji30] at A22)
                (try rw [hji30] at A25)
                (try rw [hji30] at A27)
                (try rw [hji30] at A28)
                by_cases c31 : 0 ≤ (ji30)
                · rw [if_pos c31] at H
                  have c31b0 : decide (0 ≤ (ji30)) = true := decide_eq_true c31
                  clear c31
                  by_cases c32 : (ji30) < (y295.length : Int)
                  · rw [if_pos c32] at H
                    have c32b0 : decide ((ji30) < (y295.length : Int)) = true := decide_eq_true c32
                    clear c32
                    replace H := Option.bind_eq_some_iff.mp H
                    obtain ⟨t299, A330, H⟩ := H
                    replace H : ((some (([(⟨#[117, 116, 102, 45, 56]⟩ : ByteArray), (⟨#[117, 116, 102, 45, 49, 54]⟩ : ByteArray), (⟨#[108, 97, 116, 105, 110, 49]⟩ : ByteArray), (⟨#[]⟩ : ByteArray)] : List ByteArray) : List ByteArray)).bind fun y300 => (if (ji30) < (y300.length : Int) then ((redactorref04_Named.f (rdOf ByteArray.empty y300 (ji30))).bind fun t304 => (some (t299 == t304))) else (none))) = some r := H
                    have A33 := Aside0.mk A330
                    clear A330
                    obtain ⟨y300, hy300⟩ : ∃ y_ : List ByteArray, y_ = (([(⟨#[117, 116, 102, 45, 56]⟩ : ByteArray), (⟨#[117, 116, 102, 45, 49, 54]⟩ : ByteArray), (⟨#[108, 97, 116, 105, 110, 49]⟩ : ByteArray), (⟨#[]⟩ : ByteArray)] : List ByteArray)) := ⟨_, rfl⟩
                    replace H : (if (ji30) < (y300.length : Int) then ((redactorref04_Named.f (rdOf ByteArray.empty y300 (ji30))).bind fun t304 => (some (t299 == t304))) else (none)) = some r := by first | (rw [hy300]; with_reducible exact H) | (have H2_ := (Option.bind_some _ _).symm.trans H; rw [hy300]; with_reducible exact H2_) | (have H2_ := (Option.bind_some _ _).symm.trans H; with_reducible exact H2_) | with_reducible exact H | (rw [hy300]; exact H) | exact H
                    have Ny300 := Aside0.mk hy300
                    clear hy300
                    by_cases c34 : (ji30) < (y300.length : Int)
                    · rw [if_pos c34] at H
                      have c34b0 : decide ((ji30) < (y300.length : Int)) = true := decide_eq_true c34
                      clear c34
                      replace H := Option.bind_eq_some_iff.mp H
                      obtain ⟨t304, A350, H⟩ := H
                      replace H : (some (t299 == t304)) = some r := H
                      have A35 := Aside0.mk A350
                      clear A350
                      obtain rfl := Option.some.inj H
                      try go_wp2_with (first | ((with_reducible refine gate_callee (f := 17) rfl ?_); refine goesL_ (some 36) rfl rfl Tryd.func17 (by kernel_rfl) rfl #[.slice A1 l1.length c1] rfl (by (try simp only [List.map_toArray, List.map_cons, List.map_nil]); first | done | rfl | (simp only [List.length_drop, List.length_take]; rfl)) ?_; (with_reducible refine (redactorlaw01_Cells.calls kj6 _ _ l1 t279 _ ?side1 ?side2 A19.out).mono ?_); (case side1 => repeat (first | exact (Kd.C_below HR1.out HB.out) | (with_reducible refine Kd.C_alloc ?_ _) | (with_reducible refine Kd.C_drewN ?_ _) | (with_reducible refine Kd.C_drew ?_))); (case side2 => exact HC1.out); rintro e w36 ⟨v280, rfl, ho0, hb⟩; refine ⟨_, rfl, ?_⟩; have n0_ := Aside0.mk (Kd.R_lower ho0 (below_size (by repeat (first | (with_reducible first | exact HB.out | apply below_alloc | apply pw_below_drewN | apply below_drew1 | refine below_set ?_ GE276.out) | exact HB.out)))); have n1_ := Aside0.mk (blk_below (g := gb276) (o := .cells #[.int .u8 a0_0, .bool a0_1, .bool a0_2, .slice A0_3 l0_3.length c0_3] 29 (0, 0)) (by (with_reducible repeat (first | refine blk_drewN ?_ _ | refine blk_drew ?_ | refine blk_alloc ?_ _)); exact BK276.out) hb); have n2_ := Aside0.mk (below_step (by repeat (first | (with_reducible first | exact HB.out | apply below_alloc | apply pw_below_drewN | apply below_drew1 | refine below_set ?_ GE276.out) | exact HB.out)) hb); clear BK276; clear HB; have HO281 := n0_; have BK276 := n1_; have HB := n2_; clear n0_ n1_ n2_; (try clear hb); (try clear hb2); (try clear hk); (try clear hi); (try clear ho0); obtain ⟨Ao37, co37, eo37⟩ := Kd.R_slice HO281.out; subst eo37) | ((with_reducible refine gate_dst (N := 13) rfl ?_); (try (refine gate_guard (by rfl) ?_; dsimp only)); refine box_event ?hg (N := 13) ?hd (cs := #[.int .u8 0, .bool false, .bool false, .slice none 0 0]) (t := 29) ?hr ?_; (case hd => rfl); (case hg => rfl); (case hr => first | (go_simp; done) | (go_simp; rfl)); intro gb282 hg w38 hbox hb; have n0_ := Aside0.mk (Kd.R_below (by (with_reducible repeat (first | apply Kd.R_alloc | apply Kd.R_drewN | apply Kd.R_drew)); exact HO281.out) hb); have n1_ := Aside0.mk (blk_below (g := gb276) (o := .cells #[.int .u8 a0_0, .bool a0_1, .bool a0_2, .slice A0_3 l0_3.length c0_3] 29 (0, 0)) (by (with_reducible repeat (first | refine blk_drewN ?_ _ | refine blk_drew ?_ | refine blk_alloc ?_ _)); exact BK276.out) hb); have n2_ := Aside0.mk (below_step (by repeat (first | (with_reducible first | exact HB.out | apply below_alloc | apply pw_below_drewN | apply below_drew1 | refine below_set ?_ GE276.out) | exact HB.out)) hb); have n3_ := Aside0.mk (hbox); have n4_ := Aside0.mk ((by rw [hg]; exact (below_size (by repeat (first | (with_reducible first | exact HB.out | apply below_alloc | apply pw_below_drewN | apply below_drew1 | refine below_set ?_ GE276.out) | exact HB.out))) : w.heap.size ≤ gb282)); have n5_ := Aside0.mk ((by rw [hg]; exact (below_size (by repeat (first | (with_reducible first | exact HB.out | apply below_alloc | apply pw_below_drewN | apply below_drew1 | refine below_set ?_ GE276.out) | exact HB.out))) : w.heap.size ≤ gb282)); have n6_ := Aside0.mk ((by rw [hg]; exact Nat.ne_of_lt (blk_lt (g := gb276) (o := .cells #[.int .u8 a0_0, .bool a0_1, .bool a0_2, .slice A0_3 l0_3.length c0_3] 29 (0, 0)) (by (with_reducible repeat (first | refine blk_drewN ?_ _ | refine blk_drew ?_ | refine blk_alloc ?_ _)); exact BK276.out)) : gb276 ≠ gb282)); have n7_ := Aside0.mk ((by rw [hg]; exact Nat.ne_of_gt (blk_lt (g := gb276) (o := .cells #[.int .u8 a0_0, .bool a0_1, .bool a0_2, .slice A0_3 l0_3.length c0_3] 29 (0, 0)) (by (with_reducible repeat (first | refine blk_drewN ?_ _ | refine blk_drew ?_ | refine blk_alloc ?_ _)); exact BK276.out)) : gb282 ≠ gb276)); clear HO281; clear BK276; clear HB; have HO281 := n0_; have BK276 := n1_; have HB := n2_; have BK282 := n3_; have GW282 := n4_; have GE282 := n5_; have NB276_282 := n6_; have NB282_276 := n7_; clear n0_ n1_ n2_ n3_ n4_ n5_ n6_ n7_; clear hb hbox hg; have hnb39 := NB282_276.out; have hnc39 := NB276_282.out; have hcz40_0 : w38.cell? ⟨gb282, 0, none⟩ = some (.int .u8 0) := (blk_cell BK282.out 0).trans rfl; have hcz40_1 : w38.cell? ⟨gb282, 1, none⟩ = some (.bool false) := (blk_cell BK282.out 1).trans rfl; have hcz40_2 : w38.cell? ⟨gb282, 2, none⟩ = some (.bool false) := (blk_cell BK282.out 2).trans rfl; have hcz40_3 : w38.cell? ⟨gb282, 3, none⟩ = some (.slice none 0 0) := (blk_cell BK282.out 3).trans rfl; have hfz40_0 := blk_frozen BK282.out 0; have hfz40_1 := blk_frozen BK282.out 1; have hfz40_2 := blk_frozen BK282.out 2; have hfz40_3 := blk_frozen BK282.out 3; have hcz41_0 : w38.cell? ⟨gb276, 0, none⟩ = some (.int .u8 a0_0) := (blk_cell BK276.out 0).trans rfl; have hcz41_1 : w38.cell? ⟨gb276, 1, none⟩ = some (.bool a0_1) := (blk_cell BK276.out 1).trans rfl; have hcz41_2 : w38.cell? ⟨gb276, 2, none⟩ = some (.bool a0_2) := (blk_cell BK276.out 2).trans rfl; have hcz41_3 : w38.cell? ⟨gb276, 3, none⟩ = some (.slice A0_3 l0_3.length c0_3) := (blk_cell BK276.out 3).trans rfl; have hfz41_0 := blk_frozen BK276.out 0; have hfz41_1 := blk_frozen BK276.out 1; have hfz41_2 := blk_frozen BK276.out 2; have hfz41_3 := blk_frozen BK276.out 3) | ((with_reducible refine gate_callee (f := 18) rfl ?_); refine goesL_ (some 39) rfl rfl Tryd.func18 (by kernel_rfl) rfl #[.agg #[.int .u8 a0_0, .bool a0_1, .bool a0_2, .slice A0_3 l0_3.length c0_3]] rfl (by (try simp only [List.map_toArray, List.map_cons, List.map_nil]); first | done | rfl | (simp only [List.length_drop, List.length_take]; rfl)) ?_; (with_reducible refine (redactorlaw04_encodes.calls kj6 a0_0 a0_1 a0_2 _ _ l0_3 true _ ?side1 ?side2 A20.out).mono ?_); (case side1 => exact Kd.C_below HR0_3.out (by repeat (first | (with_reducible first | exact HB.out | apply below_alloc | apply pw_below_drewN | apply below_drew1 | refine below_set ?_ GE276.out | refine below_set ?_ GE282.out) | exact HB.out))); (case side2 => exact HC0_3.out); rintro e w42 ⟨rfl, hb⟩; refine ⟨_, rfl, ?_⟩; have n0_ := Aside0.mk (Kd.R_below (by (with_reducible repeat (first | apply Kd.R_alloc | apply Kd.R_drewN | apply Kd.R_drew)); exact (Kd.R_mono (Kd.R_far (p := ⟨gb282, 3, none⟩) (Kd.R_far (p := ⟨gb282, 2, none⟩) (Kd.R_far (p := ⟨gb282, 1, none⟩) (Kd.R_far (p := ⟨gb282, 0, none⟩) (Kd.R_types HO281.out BK282.out (by decide)) (fun _ hk => hk.2) (.int .u8 (Int.tmod a2 5))) (fun _ hk => hk.2) (.bool a3)) (fun _ hk => hk.2) (.bool a4)) (fun _ hk => hk.2) (.slice Ao37 t279.length co37)) (fun _ h_ => h_.1))) hb); have n1_ := Aside0.mk (blk_below (g := gb276) (o := .cells #[.int .u8 a0_0, .bool a0_1, .bool a0_2, .slice A0_3 l0_3.length c0_3] 29 (0, 0)) (by (with_reducible repeat (first | refine blk_drewN ?_ _ | refine blk_drew ?_ | refine blk_alloc ?_ _)); refine blk_far ?_ NB276_282.out _; (with_reducible repeat (first | refine blk_drewN ?_ _ | refine blk_drew ?_ | refine blk_alloc ?_ _)); refine blk_far ?_ NB276_282.out _; (with_reducible repeat (first | refine blk_drewN ?_ _ | refine blk_drew ?_ | refine blk_alloc ?_ _)); refine blk_far ?_ NB276_282.out _; (with_reducible repeat (first | refine blk_drewN ?_ _ | refine blk_drew ?_ | refine blk_alloc ?_ _)); refine blk_far ?_ NB276_282.out _; (with_reducible repeat (first | refine blk_drewN ?_ _ | refine blk_drew ?_ | refine blk_alloc ?_ _)); exact BK276.out) hb); have n2_ := Aside0.mk (blk_below (g := gb282) (o := .cells #[.int .u8 (Int.tmod a2 5), .bool a3, .bool a4, .slice Ao37 t279.length co37] 29 (0, 0)) (by (with_reducible repeat (first | refine blk_drewN ?_ _ | refine blk_drew ?_ | refine blk_alloc ?_ _)); refine blk_put (cs := #[.int .u8 (Int.tmod a2 5), .bool a3, .bool a4, .slice none 0 0]) ?_ 3 _ rfl; (with_reducible repeat (first | refine blk_drewN ?_ _ | refine blk_drew ?_ | refine blk_alloc ?_ _)); refine blk_put (cs := #[.int .u8 (Int.tmod a2 5), .bool a3, .bool false, .slice none 0 0]) ?_ 2 _ rfl; (with_reducible repeat (first | refine blk_drewN ?_ _ | refine blk_drew ?_ | refine blk_alloc ?_ _)); refine blk_put (cs := #[.int .u8 (Int.tmod a2 5), .bool false, .bool false, .slice none 0 0]) ?_ 1 _ rfl; (with_reducible repeat (first | refine blk_drewN ?_ _ | refine blk_drew ?_ | refine blk_alloc ?_ _)); refine blk_put (cs := #[.int .u8 0, .bool false, .bool false, .slice none 0 0]) ?_ 0 _ rfl; (with_reducible repeat (first | refine blk_drewN ?_ _ | refine blk_drew ?_ | refine blk_alloc ?_ _)); exact BK282.out) hb); have n3_ := Aside0.mk (below_step (by repeat (first | (with_reducible first | exact HB.out | apply below_alloc | apply pw_below_drewN | apply below_drew1 | refine below_set ?_ GE276.out | refine below_set ?_ GE282.out) | exact HB.out)) hb); clear HO281; clear BK276; clear BK282; clear HB; have HO281 := n0_; have BK276 := n1_; have BK282 := n2_; have HB := n3_; clear n0_ n1_ n2_ n3_; (try clear hb); (try clear hb2); (try clear hk); (try clear hi); have hcz43_0 : w42.cell? ⟨gb276, 0, none⟩ = some (.int .u8 a0_0) := (blk_cell BK276.out 0).trans rfl; have hcz43_1 : w42.cell? ⟨gb276, 1, none⟩ = some (.bool a0_1) := (blk_cell BK276.out 1).trans rfl; have hcz43_2 : w42.cell? ⟨gb276, 2, none⟩ = some (.bool a0_2) := (blk_cell BK276.out 2).trans rfl; have hcz43_3 : w42.cell? ⟨gb276, 3, none⟩ = some (.slice A0_3 l0_3.length c0_3) := (blk_cell BK276.out 3).trans rfl; have hfz43_0 := blk_frozen BK276.out 0; have hfz43_1 := blk_frozen BK276.out 1; have hfz43_2 := blk_frozen BK276.out 2; have hfz43_3 := blk_frozen BK276.out 3; have hcz44_0 : w42.cell? ⟨gb282, 0, none⟩ = some (.int .u8 (Int.tmod a2 5)) := (blk_cell BK282.out 0).trans rfl; have hcz44_1 : w42.cell? ⟨gb282, 1, none⟩ = some (.bool a3) := (blk_cell BK282.out 1).trans rfl; have hcz44_2 : w42.cell? ⟨gb282, 2, none⟩ = some (.bool a4) := (blk_cell BK282.out 2).trans rfl; have hcz44_3 : w42.cell? ⟨gb282, 3, none⟩ = some (.slice Ao37 t279.length co37) := (blk_cell BK282.out 3).trans rfl; have hfz44_0 := blk_frozen BK282.out 0; have hfz44_1 := blk_frozen BK282.out 1; have hfz44_2 := blk_frozen BK282.out 2; have hfz44_3 := blk_frozen BK282.out 3) | ((with_reducible refine gate_callee (f := 15) rfl ?_); refine goesL_ (some 43) rfl rfl Tryd.func15 (by kernel_rfl) rfl #[.agg #[.int .u8 a0_0, .bool a0_1, .bool a0_2, .slice A0_3 l0_3.length c0_3], .slice Ao37 t279.length co37] rfl (by (try simp only [List.map_toArray, List.map_cons, List.map_nil]); first | done | rfl | (simp only [List.length_drop, List.length_take]; rfl)) ?_; (with_reducible refine (codec_With.calls a0_0 a0_1 a0_2 _ _ l0_3 _ _ t279 t284 t285 t286 t287 _ ?side1 ?side2 ?side3 ?side4 A21.out).mono ?_); (case side1 => repeat (first | exact (Kd.C_below HR0_3.out HB.out) | (with_reducible refine Kd.C_alloc ?_ _) | (with_reducible refine Kd.C_drewN ?_ _) | (with_reducible refine Kd.C_drew ?_))); (case side2 => exact HC0_3.out); (case side3 => repeat (first | exact (Kd.R_reads' HO281.out).2.2 | (with_reducible refine Kd.C_alloc ?_ _) | (with_reducible refine Kd.C_drewN ?_ _) | (with_reducible refine Kd.C_drew ?_))); (case side4 => exact (Kd.R_reads' HO281.out).2.1); rintro e w45 ⟨v288, rfl, ho0, hb⟩; refine ⟨_, rfl, ?_⟩; have n0_ := Aside0.mk (Kd.R_elder' (by (with_reducible repeat (first | apply Kd.R_alloc | apply Kd.R_drewN | apply Kd.R_drew)); exact HO281.out) (Kd.R_base ho0) hb); have n1_ := Aside0.mk (Kd.R_lower (Kd.R_new' ho0 (Kd.R_lt (by (with_reducible repeat (first | apply Kd.R_alloc | apply Kd.R_drewN | apply Kd.R_drew)); exact HO281.out))) (below_size (by repeat (first | (with_reducible first | exact HB.out | apply below_alloc | apply pw_below_drewN | apply below_drew1 | refine below_set ?_ GE276.out | refine below_set ?_ GE282.out) | exact HB.out)))); have n2_ := Aside0.mk (blk_below (g := gb276) (o := .cells #[.int .u8 a0_0, .bool a0_1, .bool a0_2, .slice A0_3 l0_3.length c0_3] 29 (0, 0)) (by (with_reducible repeat (first | refine blk_drewN ?_ _ | refine blk_drew ?_ | refine blk_alloc ?_ _)); exact BK276.out) hb); have n3_ := Aside0.mk (blk_below (g := gb282) (o := .cells #[.int .u8 (Int.tmod a2 5), .bool a3, .bool a4, .slice Ao37 t279.length co37] 29 (0, 0)) (by (with_reducible repeat (first | refine blk_drewN ?_ _ | refine blk_drew ?_ | refine blk_alloc ?_ _)); exact BK282.out) hb); have n4_ := Aside0.mk (below_step (by repeat (first | (with_reducible first | exact HB.out | apply below_alloc | apply pw_below_drewN | apply below_drew1 | refine below_set ?_ GE276.out | refine below_set ?_ GE282.out) | exact HB.out)) hb); clear HO281; clear BK276; clear BK282; clear HB; have HO281 := n0_; have HO289 := n1_; have BK276 := n2_; have BK282 := n3_; have HB := n4_; clear n0_ n1_ n2_ n3_ n4_; (try clear hb); (try clear hb2); (try clear hk); (try clear hi); (try clear ho0)) | ((with_reducible refine gate_dst (N := 15) rfl ?_); (try (refine gate_guard (by rfl) ?_; dsimp only)); refine box_event ?hg (N := 15) ?hd (cs := #[.int .u8 0, .bool false, .bool false, .slice none 0 0]) (t := 29) ?hr ?_; (case hd => rfl); (case hg => rfl); (case hr => first | (go_simp; done) | (go_simp; rfl)); intro gb290 hg w46 hbox hb; have n0_ := Aside0.mk (Kd.R_below (by (with_reducible repeat (first | apply Kd.R_alloc | apply Kd.R_drewN | apply Kd.R_drew)); exact HO281.out) hb); have n1_ := Aside0.mk (Kd.R_below (by (with_reducible repeat (first | apply Kd.R_alloc | apply Kd.R_drewN | apply Kd.R_drew)); exact HO289.out) hb); have n2_ := Aside0.mk (blk_below (g := gb276) (o := .cells #[.int .u8 a0_0, .bool a0_1, .bool a0_2, .slice A0_3 l0_3.length c0_3] 29 (0, 0)) (by (with_reducible repeat (first | refine blk_drewN ?_ _ | refine blk_drew ?_ | refine blk_alloc ?_ _)); exact BK276.out) hb); have n3_ := Aside0.mk (blk_below (g := gb282) (o := .cells #[.int .u8 (Int.tmod a2 5), .bool a3, .bool a4, .slice Ao37 t279.length co37] 29 (0, 0)) (by (with_reducible repeat (first | refine blk_drewN ?_ _ | refine blk_drew ?_ | refine blk_alloc ?_ _)); exact BK282.out) hb); have n4_ := Aside0.mk (below_step (by repeat (first | (with_reducible first | exact HB.out | apply below_alloc | apply pw_below_drewN | apply below_drew1 | refine below_set ?_ GE276.out | refine below_set ?_ GE282.out) | exact HB.out)) hb); have n5_ := Aside0.mk (hbox); have n6_ := Aside0.mk ((by rw [hg]; exact (below_size (by repeat (first | (with_reducible first | exact HB.out | apply below_alloc | apply pw_below_drewN | apply below_drew1 | refine below_set ?_ GE276.out | refine below_set ?_ GE282.out) | exact HB.out))) : w.heap.size ≤ gb290)); have n7_ := Aside0.mk ((by rw [hg]; exact (below_size (by repeat (first | (with_reducible first | exact HB.out | apply below_alloc | apply pw_below_drewN | apply below_drew1 | refine below_set ?_ GE276.out | refine below_set ?_ GE282.out) | exact HB.out))) : w.heap.size ≤ gb290)); have n8_ := Aside0.mk ((by rw [hg]; exact Nat.ne_of_lt (blk_lt (g := gb276) (o := .cells #[.int .u8 a0_0, .bool a0_1, .bool a0_2, .slice A0_3 l0_3.length c0_3] 29 (0, 0)) (by (with_reducible repeat (first | refine blk_drewN ?_ _ | refine blk_drew ?_ | refine blk_alloc ?_ _)); exact BK276.out)) : gb276 ≠ gb290)); have n9_ := Aside0.mk ((by rw [hg]; exact Nat.ne_of_gt (blk_lt (g := gb276) (o := .cells #[.int .u8 a0_0, .bool a0_1, .bool a0_2, .slice A0_3 l0_3.length c0_3] 29 (0, 0)) (by (with_reducible repeat (first | refine blk_drewN ?_ _ | refine blk_drew ?_ | refine blk_alloc ?_ _)); exact BK276.out)) : gb290 ≠ gb276)); have n10_ := Aside0.mk ((by rw [hg]; exact Nat.ne_of_lt (blk_lt (g := gb282) (o := .cells #[.int .u8 (Int.tmod a2 5), .bool a3, .bool a4, .slice Ao37 t279.length co37] 29 (0, 0)) (by (with_reducible repeat (first | refine blk_drewN ?_ _ | refine blk_drew ?_ | refine blk_alloc ?_ _)); exact BK282.out)) : gb282 ≠ gb290)); have n11_ := Aside0.mk ((by rw [hg]; exact Nat.ne_of_gt (blk_lt (g := gb282) (o := .cells #[.int .u8 (Int.tmod a2 5), .bool a3, .bool a4, .slice Ao37 t279.length co37] 29 (0, 0)) (by (with_reducible repeat (first | refine blk_drewN ?_ _ | refine blk_drew ?_ | refine blk_alloc ?_ _)); exact BK282.out)) : gb290 ≠ gb282)); clear HO281; clear HO289; clear BK276; clear BK282; clear HB; have HO281 := n0_; have HO289 := n1_; have BK276 := n2_; have BK282 := n3_; have HB := n4_; have BK290 := n5_; have GW290 := n6_; have GE290 := n7_; have NB276_290 := n8_; have NB290_276 := n9_; have NB282_290 := n10_; have NB290_282 := n11_; clear n0_ n1_ n2_ n3_ n4_ n5_ n6_ n7_ n8_ n9_ n10_ n11_; clear hb hbox hg; have hnb47 := NB290_276.out; have hnc47 := NB276_290.out; have hnb48 := NB290_282.out; have hnc48 := NB282_290.out; have hcz49_0 : w46.cell? ⟨gb290, 0, none⟩ = some (.int .u8 0) := (blk_cell BK290.out 0).trans rfl; have hcz49_1 : w46.cell? ⟨gb290, 1, none⟩ = some (.bool false) := (blk_cell BK290.out 1).trans rfl; have hcz49_2 : w46.cell? ⟨gb290, 2, none⟩ = some (.bool false) := (blk_cell BK290.out 2).trans rfl; have hcz49_3 : w46.cell? ⟨gb290, 3, none⟩ = some (.slice none 0 0) := (blk_cell BK290.out 3).trans rfl; have hfz49_0 := blk_frozen BK290.out 0; have hfz49_1 := blk_frozen BK290.out 1; have hfz49_2 := blk_frozen BK290.out 2; have hfz49_3 := blk_frozen BK290.out 3; obtain ⟨Ao50, co50, eo50⟩ := Kd.R_slice HO289.out; subst eo50; have hcz51_0 : w46.cell? ⟨gb282, 0, none⟩ = some (.int .u8 (Int.tmod a2 5)) := (blk_cell BK282.out 0).trans rfl; have hcz51_1 : w46.cell? ⟨gb282, 1, none⟩ = some (.bool a3) := (blk_cell BK282.out 1).trans rfl; have hcz51_2 : w46.cell? ⟨gb282, 2, none⟩ = some (.bool a4) := (blk_cell BK282.out 2).trans rfl; have hcz51_3 : w46.cell? ⟨gb282, 3, none⟩ = some (.slice Ao37 t279.length co37) := (blk_cell BK282.out 3).trans rfl; have hfz51_0 := blk_frozen BK282.out 0; have hfz51_1 := blk_frozen BK282.out 1; have hfz51_2 := blk_frozen BK282.out 2; have hfz51_3 := blk_frozen BK282.out 3; have hcz52_0 : w46.cell? ⟨gb276, 0, none⟩ = some (.int .u8 a0_0) := (blk_cell BK276.out 0).trans rfl; have hcz52_1 : w46.cell? ⟨gb276, 1, none⟩ = some (.bool a0_1) := (blk_cell BK276.out 1).trans rfl; have hcz52_2 : w46.cell? ⟨gb276, 2, none⟩ = some (.bool a0_2) := (blk_cell BK276.out 2).trans rfl; have hcz52_3 : w46.cell? ⟨gb276, 3, none⟩ = some (.slice A0_3 l0_3.length c0_3) := (blk_cell BK276.out 3).trans rfl; have hfz52_0 := blk_frozen BK276.out 0; have hfz52_1 := blk_frozen BK276.out 1; have hfz52_2 := blk_frozen BK276.out 2; have hfz52_3 := blk_frozen BK276.out 3) | ((with_reducible refine gate_callee (f := 19) rfl ?_); refine goesL_ (some 49) rfl rfl Tryd.func19 (by kernel_rfl) rfl #[.agg #[.int .u8 t284, .bool t285, .bool t286, .slice Ao50 t287.length co50], .agg #[.int .u8 a0_0, .bool a0_1, .bool a0_2, .slice Ao37 t279.length co37]] rfl (by (try simp only [List.map_toArray, List.map_cons, List.map_nil]); first | done | rfl | (simp only [List.length_drop, List.length_take]; rfl)) ?_; (with_reducible refine (redactorref04_Same.calls kj6 t284 t285 t286 _ _ t287 a0_0 a0_1 a0_2 _ _ t279 true _ ?side1 ?side2 ?side3 ?side4 A22.out).mono ?_); (case side1 => refine (Kd.R_reads' (e := 37) (base := w.heap.size) (ok := fun k_ => (True ∧ some k_ ≠ (.slice Ao37 t279.length co37 : Value).ownBlock)) (n := t287.length) (c := co50) ?_).2.2; exact (by (with_reducible repeat (first | apply Kd.R_alloc | apply Kd.R_drewN | apply Kd.R_drew)); exact (Kd.R_mono (Kd.R_mono (Kd.R_far (p := ⟨gb276, 3, none⟩) (Kd.R_far (p := ⟨gb290, 3, none⟩) (Kd.R_far (p := ⟨gb290, 2, none⟩) (Kd.R_far (p := ⟨gb290, 1, none⟩) (Kd.R_far (p := ⟨gb290, 0, none⟩) (Kd.R_types (Kd.R_types HO289.out BK290.out (by decide)) BK276.out (by decide)) (fun _ hk => hk.1.2) (.int .u8 t284)) (fun _ hk => hk.1.2) (.bool t285)) (fun _ hk => hk.1.2) (.bool t286)) (fun _ hk => hk.1.2) (.slice Ao50 t287.length co50)) (fun _ hk => hk.2) (.slice Ao37 t279.length co37)) (fun _ h_ => h_.1)) (fun _ h_ => h_.1)))); (case side2 => exact (Kd.R_reads' HO289.out).2.1); (case side3 => refine (Kd.R_reads' (e := 37) (base := w.heap.size) (ok := fun k_ => (True ∧ some k_ ≠ (.slice Ao50 t287.length co50 : Value).ownBlock)) (n := t279.length) (c := co37) ?_).2.2; exact (by (with_reducible repeat (first | apply Kd.R_alloc | apply Kd.R_drewN | apply Kd.R_drew)); exact (Kd.R_mono (Kd.R_mono (Kd.R_far (p := ⟨gb276, 3, none⟩) (Kd.R_far (p := ⟨gb290, 3, none⟩) (Kd.R_far (p := ⟨gb290, 2, none⟩) (Kd.R_far (p := ⟨gb290, 1, none⟩) (Kd.R_far (p := ⟨gb290, 0, none⟩) (Kd.R_types (Kd.R_types HO281.out BK290.out (by decide)) BK276.out (by decide)) (fun _ hk => hk.1.2) (.int .u8 t284)) (fun _ hk => hk.1.2) (.bool t285)) (fun _ hk => hk.1.2) (.bool t286)) (fun _ hk => hk.1.2) (.slice Ao50 t287.length co50)) (fun _ hk => hk.2) (.slice Ao37 t279.length co37)) (fun _ h_ => h_.1)) (fun _ h_ => h_.1)))); (case side4 => exact (Kd.R_reads' HO281.out).2.1); rintro e w53 ⟨rfl, hb⟩; refine ⟨_, rfl, ?_⟩; have n0_ := Aside0.mk (Kd.R_below (by (with_reducible repeat (first | apply Kd.R_alloc | apply Kd.R_drewN | apply Kd.R_drew)); exact (Kd.R_mono (Kd.R_mono (Kd.R_far (p := ⟨gb276, 3, none⟩) (Kd.R_far (p := ⟨gb290, 3, none⟩) (Kd.R_far (p := ⟨gb290, 2, none⟩) (Kd.R_far (p := ⟨gb290, 1, none⟩) (Kd.R_far (p := ⟨gb290, 0, none⟩) (Kd.R_types (Kd.R_types HO281.out BK290.out (by decide)) BK276.out (by decide)) (fun _ hk => hk.1.2) (.int .u8 t284)) (fun _ hk => hk.1.2) (.bool t285)) (fun _ hk => hk.1.2) (.bool t286)) (fun _ hk => hk.1.2) (.slice Ao50 t287.length co50)) (fun _ hk => hk.2) (.slice Ao37 t279.length co37)) (fun _ h_ => h_.1)) (fun _ h_ => h_.1))) hb); have n1_ := Aside0.mk (Kd.R_below (by (with_reducible repeat (first | apply Kd.R_alloc | apply Kd.R_drewN | apply Kd.R_drew)); exact (Kd.R_mono (Kd.R_mono (Kd.R_far (p := ⟨gb276, 3, none⟩) (Kd.R_far (p := ⟨gb290, 3, none⟩) (Kd.R_far (p := ⟨gb290, 2, none⟩) (Kd.R_far (p := ⟨gb290, 1, none⟩) (Kd.R_far (p := ⟨gb290, 0, none⟩) (Kd.R_types (Kd.R_types HO289.out BK290.out (by decide)) BK276.out (by decide)) (fun _ hk => hk.1.2) (.int .u8 t284)) (fun _ hk => hk.1.2) (.bool t285)) (fun _ hk => hk.1.2) (.bool t286)) (fun _ hk => hk.1.2) (.slice Ao50 t287.length co50)) (fun _ hk => hk.2) (.slice Ao37 t279.length co37)) (fun _ h_ => h_.1)) (fun _ h_ => h_.1))) hb); have n2_ := Aside0.mk (blk_below (g := gb276) (o := .cells #[.int .u8 a0_0, .bool a0_1, .bool a0_2, .slice Ao37 t279.length co37] 29 (0, 0)) (by (with_reducible repeat (first | refine blk_drewN ?_ _ | refine blk_drew ?_ | refine blk_alloc ?_ _)); refine blk_put (cs := #[.int .u8 a0_0, .bool a0_1, .bool a0_2, .slice A0_3 l0_3.length c0_3]) ?_ 3 _ rfl; (with_reducible repeat (first | refine blk_drewN ?_ _ | refine blk_drew ?_ | refine blk_alloc ?_ _)); refine blk_far ?_ NB276_290.out _; (with_reducible repeat (first | refine blk_drewN ?_ _ | refine blk_drew ?_ | refine blk_alloc ?_ _)); refine blk_far ?_ NB276_290.out _; (with_reducible repeat (first | refine blk_drewN ?_ _ | refine blk_drew ?_ | refine blk_alloc ?_ _)); refine blk_far ?_ NB276_290.out _; (with_reducible repeat (first | refine blk_drewN ?_ _ | refine blk_drew ?_ | refine blk_alloc ?_ _)); refine blk_far ?_ NB276_290.out _; (with_reducible repeat (first | refine blk_drewN ?_ _ | refine blk_drew ?_ | refine blk_alloc ?_ _)); exact BK276.out) hb); have n3_ := Aside0.mk (blk_below (g := gb282) (o := .cells #[.int .u8 (Int.tmod a2 5), .bool a3, .bool a4, .slice Ao37 t279.length co37] 29 (0, 0)) (by (with_reducible repeat (first | refine blk_drewN ?_ _ | refine blk_drew ?_ | refine blk_alloc ?_ _)); refine blk_far ?_ NB282_276.out _; (with_reducible repeat (first | refine blk_drewN ?_ _ | refine blk_drew ?_ | refine blk_alloc ?_ _)); refine blk_far ?_ NB282_290.out _; (with_reducible repeat (first | refine blk_drewN ?_ _ | refine blk_drew ?_ | refine blk_alloc ?_ _)); refine blk_far ?_ NB282_290.out _; (with_reducible repeat (first | refine blk_drewN ?_ _ | refine blk_drew ?_ | refine blk_alloc ?_ _)); refine blk_far ?_ NB282_290.out _; (with_reducible repeat (first | refine blk_drewN ?_ _ | refine blk_drew ?_ | refine blk_alloc ?_ _)); refine blk_far ?_ NB282_290.out _; (with_reducible repeat (first | refine blk_drewN ?_ _ | refine blk_drew ?_ | refine blk_alloc ?_ _)); exact BK282.out) hb); have n4_ := Aside0.mk (blk_below (g := gb290) (o := .cells #[.int .u8 t284, .bool t285, .bool t286, .slice Ao50 t287.length co50] 29 (0, 0)) (by (with_reducible repeat (first | refine blk_drewN ?_ _ | refine blk_drew ?_ | refine blk_alloc ?_ _)); refine blk_far ?_ NB290_276.out _; (with_reducible repeat (first | refine blk_drewN ?_ _ | refine blk_drew ?_ | refine blk_alloc ?_ _)); refine blk_put (cs := #[.int .u8 t284, .bool t285, .bool t286, .slice none 0 0]) ?_ 3 _ rfl; (with_reducible repeat (first | refine blk_drewN ?_ _ | refine blk_drew ?_ | refine blk_alloc ?_ _)); refine blk_put (cs := #[.int .u8 t284, .bool t285, .bool false, .slice none 0 0]) ?_ 2 _ rfl; (with_reducible repeat (first | refine blk_drewN ?_ _ | refine blk_drew ?_ | refine blk_alloc ?_ _)); refine blk_put (cs := #[.int .u8 t284, .bool false, .bool false, .slice none 0 0]) ?_ 1 _ rfl; (with_reducible repeat (first | refine blk_drewN ?_ _ | refine blk_drew ?_ | refine blk_alloc ?_ _)); refine blk_put (cs := #[.int .u8 0, .bool false, .bool false, .slice none 0 0]) ?_ 0 _ rfl; (with_reducible repeat (first | refine blk_drewN ?_ _ | refine blk_drew ?_ | refine blk_alloc ?_ _)); exact BK290.out) hb); have n5_ := Aside0.mk (below_step (by repeat (first | (with_reducible first | exact HB.out | apply below_alloc | apply pw_below_drewN | apply below_drew1 | refine below_set ?_ GE276.out | refine below_set ?_ GE282.out | refine below_set ?_ GE290.out) | exact HB.out)) hb); clear HO281; clear HO289; clear BK276; clear BK282; clear BK290; clear HB; have HO281 := n0_; have HO289 := n1_; have BK276 := n2_; have BK282 := n3_; have BK290 := n4_; have HB := n5_; clear n0_ n1_ n2_ n3_ n4_ n5_; (try clear hb); (try clear hb2); (try clear hk); (try clear hi)))
                      have pi298 : (0 ≤ ((ji30) : Int)) = True := eq_true (of_decide_eq_true (by first | (with_reducible assumption) | assumption))
                      have qi298 : ((ji30) < (y295.length : Int)) = True := eq_true (of_decide_eq_true (by first | (with_reducible assumption) | assumption))
                      have pi303 : (0 ≤ ((ji30) : Int)) = True := eq_true (of_decide_eq_true (by first | (with_reducible assumption) | assumption))
                      have qi303 : ((ji30) < (y300.length : Int)) = True := eq_true (of_decide_eq_true (by first | (with_reducible assumption) | assumption))
                      have n0_ := Aside0.mk (Kd.R_drew HO281.out)
                      have n1_ := Aside0.mk (Kd.R_drew HO289.out)
                      have n2_ := Aside0.mk (blk_drew BK276.out)
                      have n3_ := Aside0.mk (blk_drew BK282.out)
                      have n4_ := Aside0.mk (blk_drew BK290.out)
                      have n5_ := Aside0.mk (below_drew1 HB.out)
                      clear HO281
                      clear HO289
                      clear BK276
                      clear BK282
                      clear BK290
                      clear HB
                      have HO281 := n0_
                      have HO289 := n1_
                      have BK276 := n2_
                      have BK282 := n3_
                      have BK290 := n4_
                      have HB := n5_
                      clear n0_ n1_ n2_ n3_ n4_ n5_
                      refine start_ (n := 31) (S := fun w' => w'.cell? ⟨gb282, 0, none⟩ = some (.int .u8 (Int.tmod a2 5)) ∧ w'.cell? ⟨gb282, 1, none⟩ = some (.bool a3) ∧ w'.cell? ⟨gb282, 2, none⟩ = some (.bool a4) ∧ w'.cell? ⟨gb282, 3, none⟩ = some (.slice Ao37 t279.length co37)) (ds := []) #[false, false, false, false, false, false, false, false, false, false, false, false, false, false, false, false, false, false, false, false, false, false, false, false, false, false, false, false, false, false, false] (by kernel_rfl) rfl rfl ⟨(blk_cell BK282.out 0).trans rfl, (blk_cell BK282.out 1).trans rfl, (blk_cell BK282.out 2).trans rfl, (blk_cell BK282.out 3).trans rfl⟩ (fun hHeld => ?_); refine with_tabW redactorlaw04_CodecEncodes.tab8 redactorlaw04_CodecEncodes.bits8 (fun HT_ HW_ => ?_)
                      generalize w53.drew = w54 at HO281 HO289 BK276 BK282 BK290 HB hHeld ⊢
                      refine pure_ (i := 0) (N := some 50) (v := ?_) (a' := ?_) #[true, false, false, false, false, false, false, false, false, false, false, false, false, false, false, false, false, false, false, false, false, false, false, false, false, false, false, false, false, false, false] rfl rfl (any_of HT_.out (by kernel_rfl)) (fun _ _ _ h => h) (Or.inl ⟨by rfl, ?_⟩) ?_ ?_
                      rotate_left
                      · intro w'
                        go_simp
                        with_reducible rfl
                      rotate_left
                      · simp only [Act.put, List.setIfInBounds_toArray, List.set_cons_zero, List.set_cons_succ, i64_w, i32_w]
                        rfl
                      refine pure_ (i := 1) (N := some 51) (v := ?_) (a' := ?_) #[true, true, false, false, false, false, false, false, false, false, false, false, false, false, false, false, false, false, false, false, false, false, false, false, false, false, false, false, false, false, false] rfl rfl (any_of HT_.out (by kernel_rfl)) (fun _ _ _ h => h) (Or.inl ⟨by rfl, ?_⟩) ?_ ?_
                      rotate_left
                      · intro w'
                        go_simp
                        with_reducible rfl
                      rotate_left
                      · simp only [Act.put, List.setIfInBounds_toArray, List.set_cons_zero, List.set_cons_succ, i64_w, i32_w]
                        rfl
                      refine pure_ (i := 2) (N := some 52) (v := ?_) (a' := ?_) #[true, true, true, false, false, false, false, false, false, false, false, false, false, false, false, false, false, false, false, false, false, false, false, false, false, false, false, false, false, false, false] rfl rfl (any_of HT_.out (by kernel_rfl)) (fun _ _ _ h => h) (Or.inl ⟨by rfl, ?_⟩) ?_ ?_
                      rotate_left
                      · intro w'
                        go_simp
                        with_reducible rfl
                      rotate_left
                      · simp only [Act.put, List.setIfInBounds_toArray, List.set_cons_zero, List.set_cons_succ, i64_w, i32_w]
                        rfl
                      refine pure_ (i := 3) (N := some 53) (v := ?_) (a' := ?_) #[true, true, true, true, false, false, false, false, false, false, false, false, false, false, false, false, false, false, false, false, false, false, false, false, false, false, false, false, false, false, false] rfl rfl (any_of HT_.out (by kernel_rfl)) (fun _ _ _ h => h) (Or.inl ⟨by rfl, ?_⟩) ?_ ?_
                      rotate_left
                      · intro w'
                        go_simp
                        with_reducible rfl
                      rotate_left
                      · simp only [Act.put, List.setIfInBounds_toArray, List.set_cons_zero, List.set_cons_succ, i64_w, i32_w]
                        rfl
                      refine pure_ (i := 4) (N := some 54) (v := ?_) (a' := ?_) #[true, true, true, true, true, false, false, false, false, false, false, false, false, false, false, false, false, false, false, false, false, false, false, false, false, false, false, false, false, false, false] rfl rfl (any_of HT_.out (by kernel_rfl)) (fun _ _ _ h => h) (Or.inl ⟨by rfl, ?_⟩) ?_ ?_
                      rotate_left
                      · intro w'
                        go_simp
                        with_reducible rfl
                      rotate_left
                      · simp only [Act.put, List.setIfInBounds_toArray, List.set_cons_zero, List.set_cons_succ, i64_w, i32_w]
                        rfl
                      refine take_ (i := 5) (N := some 55) (v := ?_) (a' := ?_) #[true, true, true, true, true, true, false, false, false, false, false, false, false, false, false, false, false, false, false, false, false, false, false, false, false, false, false, false, false, false, false] rfl rfl (take_ofW HT_.out HW_.out (by kernel_rfl)) (fun _ _ _ h => h) (Or.inl ⟨by rfl, ?_⟩) hHeld ?_ ?_
                      rotate_left
                      · rintro w' ⟨s0, s1, s2, s3⟩
                        go_simp
                        with_reducible rfl
                      rotate_left
                      · simp only [Act.put, List.setIfInBounds_toArray, List.set_cons_zero, List.set_cons_succ, i64_w, i32_w]
                        rfl
                      refine one_ (i := 6) (N := some 56) #[true, true, true, true, true, true, true, false, false, false, false, false, false, false, false, false, false, false, false, false, false, false, false, false, false, false, false, false, false, false, false] rfl rfl (one_of HT_.out (by kernel_rfl)) (by decide) (fun K hK => ?_)
                      refine goes_ Tryd.func18 (by kernel_rfl) rfl #[.agg #[.int .u8 (Int.tmod a2 5), .bool a3, .bool a4, .slice Ao37 t279.length co37]] (by rfl) rfl rfl (by (try simp only [List.map_toArray, List.map_cons, List.map_nil]); first | done | rfl | (simp only [List.length_drop, List.length_take]; rfl)) ?_
                      with_reducible refine (redactorlaw04_encodes.calls kj6 (Int.tmod a2 5) a3 a4 _ _ t279 true _ ?side1 ?side2 A25.out).mono ?_
                      (case side1 => repeat (first | exact (Kd.R_reads' HO281.out).2.2 | (with_reducible refine Kd.C_alloc ?_ _) | (with_reducible refine Kd.C_drewN ?_ _) | (with_reducible refine Kd.C_drew ?_)))
                      (case side2 => exact (Kd.R_reads' HO281.out).2.1)
                      rintro e w55 ⟨rfl, hb⟩
                      refine ⟨_, rfl, ?_⟩
                      have n0_ := Aside0.mk (Kd.R_below (by (with_reducible repeat (first | apply Kd.R_alloc | apply Kd.R_drewN | apply Kd.R_drew)); exact HO281.out) hb)
                      have n1_ := Aside0.mk (Kd.R_below (by (with_reducible repeat (first | apply Kd.R_alloc | apply Kd.R_drewN | apply Kd.R_drew)); exact HO289.out) hb)
                      have n2_ := Aside0.mk (blk_below (g := gb276) (o := .cells #[.int .u8 a0_0, .bool a0_1, .bool a0_2, .slice Ao37 t279.length co37] 29 (0, 0)) (by (with_reducible repeat (first | refine blk_drewN ?_ _ | refine blk_drew ?_ | refine blk_alloc ?_ _)); exact BK276.out) hb)
                      have n3_ := Aside0.mk (blk_below (g := gb282) (o := .cells #[.int .u8 (Int.tmod a2 5), .bool a3, .bool a4, .slice Ao37 t279.length co37] 29 (0, 0)) (by (with_reducible repeat (first | refine blk_drewN ?_ _ | refine blk_drew ?_ | refine blk_alloc ?_ _)); exact BK282.out) hb)
                      have n4_ := Aside0.mk (blk_below (g := gb290) (o := .cells #[.int .u8 t284, .bool t285, .bool t286, .slice Ao50 t287.length co50] 29 (0, 0)) (by (with_reducible repeat (first | refine blk_drewN ?_ _ | refine blk_drew ?_ | refine blk_alloc ?_ _)); exact BK290.out) hb)
                      have n5_ := Aside0.mk (below_step (by repeat (first | (with_reducible first | exact HB.out | apply below_alloc | apply pw_below_drewN | apply below_drew1 | refine below_set ?_ GE276.out | refine below_set ?_ GE282.out | refine below_set ?_ GE290.out) | exact HB.out)) hb)
                      clear HO281
                      clear HO289
                      clear BK276
                      clear BK282
                      clear BK290
                      clear HB
                      have HO281 := n0_
                      have HO289 := n1_
                      have BK276 := n2_
                      have BK282 := n3_
                      have BK290 := n4_
                      have HB := n5_
                      clear n0_ n1_ n2_ n3_ n4_ n5_
                      (try clear hb)
                      (try clear hb2)
                      (try clear hk)
                      (try clear hi)
                      refine hK.out _ _ ⟨(blk_cell BK282.out 0).trans rfl, (blk_cell BK282.out 1).trans rfl, (blk_cell BK282.out 2).trans rfl, (blk_cell BK282.out 3).trans rfl⟩ (fun hHeld => ?_)
                      clear hK K
                      refine norm_ (a' := ?_) ?_ ?_
                      rotate_left
                      · show Act.put _ (some 56) _ = _
                        simp only [Act.put, List.setIfInBounds_toArray, List.set_cons_zero, List.set_cons_succ, i64_w, i32_w]
                        rfl
                      refine pure_ (i := 7) (N := some 57) (v := ?_) (a' := ?_) #[true, true, true, true, true, true, true, true, false, false, false, false, false, false, false, false, false, false, false, false, false, false, false, false, false, false, false, false, false, false, false] rfl rfl (any_of HT_.out (by kernel_rfl)) (fun _ _ _ h => h) (Or.inl ⟨by rfl, ?_⟩) ?_ ?_
                      rotate_left
                      · intro w'
                        go_simp
                        with_reducible rfl
                      rotate_left
                      · simp only [Act.put, List.setIfInBounds_toArray, List.set_cons_zero, List.set_cons_succ, i64_w, i32_w]
                        rfl
                      refine pure_ (i := 8) (N := some 58) (v := ?_) (a' := ?_) #[true, true, true, true, true, true, true, true, true, false, false, false, false, false, false, false, false, false, false, false, false, false, false, false, false, false, false, false, false, false, false] rfl rfl (any_of HT_.out (by kernel_rfl)) (fun _ _ _ h => h) (Or.inl ⟨by rfl, ?_⟩) ?_ ?_
                      rotate_left
                      · intro w'
                        go_simp
                        with_reducible rfl
                      rotate_left
                      · simp only [Act.put, List.setIfInBounds_toArray, List.set_cons_zero, List.set_cons_succ, i64_w, i32_w]
                        rfl
                      refine pure_ (i := 9) (N := some 59) (v := ?_) (a' := ?_) #[true, true, true, true, true, true, true, true, true, true, false, false, false, false, false, false, false, false, false, false, false, false, false, false, false, false, false, false, false, false, false] rfl rfl (any_of HT_.out (by kernel_rfl)) (fun _ _ _ h => h) (Or.inl ⟨by rfl, ?_⟩) ?_ ?_
                      rotate_left
                      · intro w'
                        go_simp
                        with_reducible rfl
                      rotate_left
                      · simp only [Act.put, List.setIfInBounds_toArray, List.set_cons_zero, List.set_cons_succ, i64_w, i32_w]
                        rfl
                      refine pure_ (i := 11) (N := some 61) (v := ?_) (a' := ?_) #[true, true, true, true, true, true, true, true, true, true, false, true, false, false, false, false, false, false, false, false, false, false, false, false, false, false, false, false, false, false, false] rfl rfl (any_of HT_.out (by kernel_rfl)) (fun _ _ _ h => h) (Or.inl ⟨by rfl, ?_⟩) ?_ ?_
                      rotate_left
                      · intro w'
                        go_simp
                        with_reducible rfl
                      rotate_left
                      · simp only [Act.put, List.setIfInBounds_toArray, List.set_cons_zero, List.set_cons_succ, i64_w, i32_w]
                        rfl
                      refine one_ (i := 10) (N := some 60) #[true, true, true, true, true, true, true, true, true, true, true, true, false, false, false, false, false, false, false, false, false, false, false, false, false, false, false, false, false, false, false] rfl rfl (one_of HT_.out (by kernel_rfl)) (by decide) (fun K hK => ?_)
                      refine goes_ Tryd.func20 (by kernel_rfl) rfl #[.string a5] (by rfl) rfl rfl (by (try simp only [List.map_toArray, List.map_cons, List.map_nil]); first | done | rfl | (simp only [List.length_drop, List.length_take]; rfl)) ?_
                      with_reducible refine (codec_Named.calls a5 t293 _ A27.out).mono ?_
                      rintro e w56 ⟨rfl, hb⟩
                      refine ⟨_, rfl, ?_⟩
                      have n0_ := Aside0.mk (Kd.R_below (by (with_reducible repeat (first | apply Kd.R_alloc | apply Kd.R_drewN | apply Kd.R_drew)); exact HO281.out) hb)
                      have n1_ := Aside0.mk (Kd.R_below (by (with_reducible repeat (first | apply Kd.R_alloc | apply Kd.R_drewN | apply Kd.R_drew)); exact HO289.out) hb)
                      have n2_ := Aside0.mk (blk_below (g := gb276) (o := .cells #[.int .u8 a0_0, .bool a0_1, .bool a0_2, .slice Ao37 t279.length co37] 29 (0, 0)) (by (with_reducible repeat (first | refine blk_drewN ?_ _ | refine blk_drew ?_ | refine blk_alloc ?_ _)); exact BK276.out) hb)
                      have n3_ := Aside0.mk (blk_below (g := gb282) (o := .cells #[.int .u8 (Int.tmod a2 5), .bool a3, .bool a4, .slice Ao37 t279.length co37] 29 (0, 0)) (by (with_reducible repeat (first | refine blk_drewN ?_ _ | refine blk_drew ?_ | refine blk_alloc ?_ _)); exact BK282.out) hb)
                      have n4_ := Aside0.mk (blk_below (g := gb290) (o := .cells #[.int .u8 t284, .bool t285, .bool t286, .slice Ao50 t287.length co50] 29 (0, 0)) (by (with_reducible repeat (first | refine blk_drewN ?_ _ | refine blk_drew ?_ | refine blk_alloc ?_ _)); exact BK290.out) hb)
                      have n5_ := Aside0.mk (below_step (by repeat (first | (with_reducible first | exact HB.out | apply below_alloc | apply pw_below_drewN | apply below_drew1 | refine below_set ?_ GE276.out | refine below_set ?_ GE282.out | refine below_set ?_ GE290.out) | exact HB.out)) hb)
                      clear HO281
                      clear HO289
                      clear BK276
                      clear BK282
                      clear BK290
                      clear HB
                      have HO281 := n0_
                      have HO289 := n1_
                      have BK276 := n2_
                      have BK282 := n3_
                      have BK290 := n4_
                      have HB := n5_
                      clear n0_ n1_ n2_ n3_ n4_ n5_
                      (try clear hb)
                      (try clear hb2)
                      (try clear hk)
                      (try clear hi)
                      refine hK.out _ _ ⟨(blk_cell BK282.out 0).trans rfl, (blk_cell BK282.out 1).trans rfl, (blk_cell BK282.out 2).trans rfl, (blk_cell BK282.out 3).trans rfl⟩ (fun hHeld => ?_)
                      clear hK K
                      refine norm_ (a' := ?_) ?_ ?_
                      rotate_left
                      · show Act.put _ (some 60) _ = _
                        simp only [Act.put, List.setIfInBounds_toArray, List.set_cons_zero, List.set_cons_succ, i64_w, i32_w]
                        rfl
                      refine one_ (i := 12) (N := some 62) #[true, true, true, true, true, true, true, true, true, true, true, true, true, false, false, false, false, false, false, false, false, false, false, false, false, false, false, false, false, false, false] rfl rfl (one_of HT_.out (by kernel_rfl)) (by decide) (fun K hK => ?_)
                      refine goes_ Tryd.func21 (by kernel_rfl) rfl #[.string a5] (by rfl) rfl rfl (by (try simp only [List.map_toArray, List.map_cons, List.map_nil]); first | done | rfl | (simp only [List.length_drop, List.length_take]; rfl)) ?_
                      with_reducible refine (redactorref04_Named.calls a5 t294 _ A28.out).mono ?_
                      rintro e w' ⟨rfl, ⟨nd, rfl⟩⟩
                      refine ⟨_, rfl, ?_⟩
                      refine hK.out _ _ ⟨(blk_cell BK282.out 0).trans rfl, (blk_cell BK282.out 1).trans rfl, (blk_cell BK282.out 2).trans rfl, (blk_cell BK282.out 3).trans rfl⟩ (fun hHeld => ?_)
                      clear hK K
                      refine norm_ (a' := ?_) ?_ ?_
                      rotate_left
                      · show Act.put _ (some 62) _ = _
                        simp only [Act.put, List.setIfInBounds_toArray, List.set_cons_zero, List.set_cons_succ, i64_w, i32_w]
                        rfl
                      refine pure_ (i := 13) (N := some 63) (v := ?_) (a' := ?_) #[true, true, true, true, true, true, true, true, true, true, true, true, true, true, false, false, false, false, false, false, false, false, false, false, false, false, false, false, false, false, false] rfl rfl (any_of HT_.out (by kernel_rfl)) (fun _ _ _ h => h) (Or.inl ⟨by rfl, ?_⟩) ?_ ?_
                      rotate_left
                      · intro w'
                        go_simp
                        with_reducible rfl
                      rotate_left
                      · simp only [Act.put, List.setIfInBounds_toArray, List.set_cons_zero, List.set_cons_succ, i64_w, i32_w]
                        rfl
                      refine pure_ (i := 14) (N := some 64) (v := ?_) (a' := ?_) #[true, true, true, true, true, true, true, true, true, true, true, true, true, true, true, false, false, false, false, false, false, false, false, false, false, false, false, false, false, false, false] rfl rfl (any_of HT_.out (by kernel_rfl)) (fun _ _ _ h => h) (Or.inl ⟨by rfl, ?_⟩) ?_ ?_
                      rotate_left
                      · intro w'
                        go_simp
                        with_reducible rfl
                      rotate_left
                      · simp only [Act.put, List.setIfInBounds_toArray, List.set_cons_zero, List.set_cons_succ, i64_w, i32_w]
                        rfl
                      refine pure_ (i := 15) (N := some 65) (v := ?_) (a' := ?_) #[true, true, true, true, true, true, true, true, true, true, true, true, true, true, true, true, false, false, false, false, false, false, false, false, false, false, false, false, false, false, false] rfl rfl (any_of HT_.out (by kernel_rfl)) (fun _ _ _ h => h) (Or.inl ⟨by rfl, ?_⟩) ?_ ?_
                      rotate_left
                      · intro w'
                        go_simp
                        with_reducible rfl
                      rotate_left
                      · simp only [Act.put, List.setIfInBounds_toArray, List.set_cons_zero, List.set_cons_succ, i64_w, i32_w]
                        rfl
                      refine pure_ (i := 17) (N := some 67) (v := ?_) (a' := ?_) #[true, true, true, true, true, true, true, true, true, true, true, true, true, true, true, true, false, true, false, false, false, false, false, false, false, false, false, false, false, false, false] rfl rfl (any_of HT_.out (by kernel_rfl)) (fun _ _ _ h => h) (Or.inl ⟨by rfl, ?_⟩) ?_ ?_
                      rotate_left
                      · intro w'
                        go_simp
                        with_reducible rfl
                      rotate_left
                      · simp only [Act.put, List.setIfInBounds_toArray, List.set_cons_zero, List.set_cons_succ, i64_w, i32_w]
                        rfl
                      refine pure_ (i := 18) (N := some 68) (v := ?_) (a' := ?_) #[true, true, true, true, true, true, true, true, true, true, true, true, true, true, true, true, false, true, true, false, false, false, false, false, false, false, false, false, false, false, false] rfl rfl (any_of HT_.out (by kernel_rfl)) (fun _ _ _ h => h) (Or.inl ⟨by rfl, ?_⟩) ?_ ?_
                      rotate_left
                      · intro w'
                        go_simp
                        with_reducible rfl
                      rotate_left
                      · simp only [Act.put, List.setIfInBounds_toArray, List.set_cons_zero, List.set_cons_succ, i64_w, i32_w]
                        rfl
                      refine pure_ (i := 23) (N := some 73) (v := ?_) (a' := ?_) #[true, true, true, true, true, true, true, true, true, true, true, true, true, true, true, true, false, true, true, false, false, false, false, true, false, false, false, false, false, false, false] rfl rfl (any_of HT_.out (by kernel_rfl)) (fun _ _ _ h => h) (Or.inl ⟨by rfl, ?_⟩) ?_ ?_
                      rotate_left
                      · intro w'
                        go_simp
                        with_reducible rfl
                      rotate_left
                      · simp only [Act.put, List.setIfInBounds_toArray, List.set_cons_zero, List.set_cons_succ, i64_w, i32_w]
                        rfl
                      refine pure_ (i := 24) (N := some 74) (v := ?_) (a' := ?_) #[true, true, true, true, true, true, true, true, true, true, true, true, true, true, true, true, false, true, true, false, false, false, false, true, true, false, false, false, false, false, false] rfl rfl (any_of HT_.out (by kernel_rfl)) (fun _ _ _ h => h) (Or.inl ⟨by rfl, ?_⟩) ?_ ?_
                      rotate_left
                      · intro w'
                        go_simp
                        with_reducible rfl
                      rotate_left
                      · simp only [Act.put, List.setIfInBounds_toArray, List.set_cons_zero, List.set_cons_succ, i64_w, i32_w]
                        rfl
                      refine join_ (σ := Value × Addr × Value × Addr) 4 #[true, true, true, true, true, true, true, true, true, true, true, true, true, true, true, true, true, true, true, true, true, true, true, true, true, true, true, false, false, false, false] (fun s_ => [(66, s_.1), (70, .string (rdOf ByteArray.empty y295 (ji30))), (71, .int .u8 t299), (72, s_.2.2.1), (76, .string (rdOf ByteArray.empty y300 (ji30))), (69, .pointer (some (s_.2.1.add ((ji30)).toNat))), (75, .pointer (some (s_.2.2.2.add ((ji30)).toNat)))]) (fun s_ w' => (w'.cell? ⟨gb282, 0, none⟩ = some (.int .u8 (Int.tmod a2 5)) ∧ w'.cell? ⟨gb282, 1, none⟩ = some (.bool a3) ∧ w'.cell? ⟨gb282, 2, none⟩ = some (.bool a4) ∧ w'.cell? ⟨gb282, 3, none⟩ = some (.slice Ao37 t279.length co37)) ∧ (Kd.R (Kd.int .i32) 37 w' w.heap.size (fun k_ => some k_ ≠ (.slice Ao50 t287.length co50 : Value).ownBlock) (.slice Ao37 t279.length co37) t279) ∧ (Kd.R (Kd.int .i32) 37 w' w.heap.size (fun k_ => some k_ ≠ (.slice Ao37 t279.length co37 : Value).ownBlock) (.slice Ao50 t287.length co50) t287) ∧ (Kd.R Kd.string 9 w' w.heap.size (fun k_ => some k_ ≠ (s_.2.2.1 : Value).ownBlock) s_.1 y295) ∧ (Kd.R Kd.string 9 w' w.heap.size (fun k_ => some k_ ≠ (s_.1 : Value).ownBlock) s_.2.2.1 y300) ∧ (∃ c_, (s_.1 : Value) = .slice (some s_.2.1) y295.length c_) ∧ (∃ c_, (s_.2.2.1 : Value) = .slice (some s_.2.2.2) y300.length c_) ∧ (w'.heap[gb276]? = some (.cells #[.int .u8 a0_0, .bool a0_1, .bool a0_2, .slice Ao37 t279.length co37] 29 (0, 0))) ∧ (w'.heap[gb282]? = some (.cells #[.int .u8 (Int.tmod a2 5), .bool a3, .bool a4, .slice Ao37 t279.length co37] 29 (0, 0))) ∧ (w'.heap[gb290]? = some (.cells #[.int .u8 t284, .bool t285, .bool t286, .slice Ao50 t287.length co50] 29 (0, 0))) ∧ (Below w.heap.size w w')) ?_ ?_
                      rotate_left
                      · intro hJ16_20_21_22_26
                        refine join_ (σ := Value × Addr × Value × Addr) 5 #[true, true, true, true, true, true, true, true, true, true, true, true, true, true, true, true, true, true, true, true, true, true, true, true, true, true, false, false, false, false, false] (fun s_ => [(66, s_.1), (70, .string (rdOf ByteArray.empty y295 (ji30))), (71, .int .u8 t299), (72, s_.2.2.1), (69, .pointer (some (s_.2.1.add ((ji30)).toNat))), (75, .pointer (some (s_.2.2.2.add ((ji30)).toNat)))]) (fun s_ w' => (w'.cell? ⟨gb282, 0, none⟩ = some (.int .u8 (Int.tmod a2 5)) ∧ w'.cell? ⟨gb282, 1, none⟩ = some (.bool a3) ∧ w'.cell? ⟨gb282, 2, none⟩ = some (.bool a4) ∧ w'.cell? ⟨gb282, 3, none⟩ = some (.slice Ao37 t279.length co37)) ∧ (Kd.R (Kd.int .i32) 37 w' w.heap.size (fun k_ => some k_ ≠ (.slice Ao50 t287.length co50 : Value).ownBlock) (.slice Ao37 t279.length co37) t279) ∧ (Kd.R (Kd.int .i32) 37 w' w.heap.size (fun k_ => some k_ ≠ (.slice Ao37 t279.length co37 : Value).ownBlock) (.slice Ao50 t287.length co50) t287) ∧ (Kd.R Kd.string 9 w' w.heap.size (fun k_ => some k_ ≠ (s_.2.2.1 : Value).ownBlock) s_.1 y295) ∧ (Kd.R Kd.string 9 w' w.heap.size (fun k_ => some k_ ≠ (s_.1 : Value).ownBlock) s_.2.2.1 y300) ∧ (∃ c_, (s_.1 : Value) = .slice (some s_.2.1) y295.length c_) ∧ (∃ c_, (s_.2.2.1 : Value) = .slice (some s_.2.2.2) y300.length c_) ∧ (w'.heap[gb276]? = some (.cells #[.int .u8 a0_0, .bool a0_1, .bool a0_2, .slice Ao37 t279.length co37] 29 (0, 0))) ∧ (w'.heap[gb282]? = some (.cells #[.int .u8 (Int.tmod a2 5), .bool a3, .bool a4, .slice Ao37 t279.length co37] 29 (0, 0))) ∧ (w'.heap[gb290]? = some (.cells #[.int .u8 t284, .bool t285, .bool t286, .slice Ao50 t287.length co50] 29 (0, 0))) ∧ (Below w.heap.size w w')) ?_ ?_
                        rotate_left
                        · intro hJ16_20_21_22
                          refine join_ (σ := Value × Addr × Value × Addr) 5 #[true, true, true, true, true, true, true, true, true, true, true, true, true, true, true, true, true, true, true, true, true, false, true, true, true, true, true, false, false, false, false] (fun s_ => [(66, s_.1), (70, .string (rdOf ByteArray.empty y295 (ji30))), (72, s_.2.2.1), (76, .string (rdOf ByteArray.empty y300 (ji30))), (69, .pointer (some (s_.2.1.add ((ji30)).toNat))), (75, .pointer (some (s_.2.2.2.add ((ji30)).toNat)))]) (fun s_ w' => (w'.cell? ⟨gb282, 0, none⟩ = some (.int .u8 (Int.tmod a2 5)) ∧ w'.cell? ⟨gb282, 1, none⟩ = some (.bool a3) ∧ w'.cell? ⟨gb282, 2, none⟩ = some (.bool a4) ∧ w'.cell? ⟨gb282, 3, none⟩ = some (.slice Ao37 t279.length co37)) ∧ (Kd.R (Kd.int .i32) 37 w' w.heap.size (fun k_ => some k_ ≠ (.slice Ao50 t287.length co50 : Value).ownBlock) (.slice Ao37 t279.length co37) t279) ∧ (Kd.R (Kd.int .i32) 37 w' w.heap.size (fun k_ => some k_ ≠ (.slice Ao37 t279.length co37 : Value).ownBlock) (.slice Ao50 t287.length co50) t287) ∧ (Kd.R Kd.string 9 w' w.heap.size (fun k_ => some k_ ≠ (s_.2.2.1 : Value).ownBlock) s_.1 y295) ∧ (Kd.R Kd.string 9 w' w.heap.size (fun k_ => some k_ ≠ (s_.1 : Value).ownBlock) s_.2.2.1 y300) ∧ (∃ c_, (s_.1 : Value) = .slice (some s_.2.1) y295.length c_) ∧ (∃ c_, (s_.2.2.1 : Value) = .slice (some s_.2.2.2) y300.length c_) ∧ (w'.heap[gb276]? = some (.cells #[.int .u8 a0_0, .bool a0_1, .bool a0_2, .slice Ao37 t279.length co37] 29 (0, 0))) ∧ (w'.heap[gb282]? = some (.cells #[.int .u8 (Int.tmod a2 5), .bool a3, .bool a4, .slice Ao37 t279.length co37] 29 (0, 0))) ∧ (w'.heap[gb290]? = some (.cells #[.int .u8 t284, .bool t285, .bool t286, .slice Ao50 t287.length co50] 29 (0, 0))) ∧ (Below w.heap.size w w')) ?_ ?_
                          rotate_left
                          · intro hJ16_20_22_26
                            refine join_ (σ := Value × Addr) 7 #[true, true, true, true, true, true, true, true, true, true, true, true, true, true, true, true, true, true, true, true, true, true, false, true, true, false, false, false, false, false, false] (fun s_ => [(66, s_.1), (70, .string (rdOf ByteArray.empty y295 (ji30))), (71, .int .u8 t299), (69, .pointer (some (s_.2.add ((ji30)).toNat)))]) (fun s_ w' => (w'.cell? ⟨gb282, 0, none⟩ = some (.int .u8 (Int.tmod a2 5)) ∧ w'.cell? ⟨gb282, 1, none⟩ = some (.bool a3) ∧ w'.cell? ⟨gb282, 2, none⟩ = some (.bool a4) ∧ w'.cell? ⟨gb282, 3, none⟩ = some (.slice Ao37 t279.length co37)) ∧ (Kd.R (Kd.int .i32) 37 w' w.heap.size (fun k_ => some k_ ≠ (.slice Ao50 t287.length co50 : Value).ownBlock) (.slice Ao37 t279.length co37) t279) ∧ (Kd.R (Kd.int .i32) 37 w' w.heap.size (fun k_ => some k_ ≠ (.slice Ao37 t279.length co37 : Value).ownBlock) (.slice Ao50 t287.length co50) t287) ∧ (Kd.R Kd.string 9 w' w.heap.size (fun _ => True) s_.1 y295) ∧ (∃ c_, (s_.1 : Value) = .slice (some s_.2) y295.length c_) ∧ (w'.heap[gb276]? = some (.cells #[.int .u8 a0_0, .bool a0_1, .bool a0_2, .slice Ao37 t279.length co37] 29 (0, 0))) ∧ (w'.heap[gb282]? = some (.cells #[.int .u8 (Int.tmod a2 5), .bool a3, .bool a4, .slice Ao37 t279.length co37] 29 (0, 0))) ∧ (w'.heap[gb290]? = some (.cells #[.int .u8 t284, .bool t285, .bool t286, .slice Ao50 t287.length co50] 29 (0, 0))) ∧ (Below w.heap.size w w')) ?_ ?_
                            rotate_left
                            · intro hJ16_20_21
                              refine join_ (σ := Value × Addr × Value × Addr) 6 #[true, true, true, true, true, true, true, true, true, true, true, true, true, true, true, true, true, true, true, true, true, false, true, true, true, true, false, false, false, false, false] (fun s_ => [(66, s_.1), (70, .string (rdOf ByteArray.empty y295 (ji30))), (72, s_.2.2.1), (69, .pointer (some (s_.2.1.add ((ji30)).toNat))), (75, .pointer (some (s_.2.2.2.add ((ji30)).toNat)))]) (fun s_ w' => (w'.cell? ⟨gb282, 0, none⟩ = some (.int .u8 (Int.tmod a2 5)) ∧ w'.cell? ⟨gb282, 1, none⟩ = some (.bool a3) ∧ w'.cell? ⟨gb282, 2, none⟩ = some (.bool a4) ∧ w'.cell? ⟨gb282, 3, none⟩ = some (.slice Ao37 t279.length co37)) ∧ (Kd.R (Kd.int .i32) 37 w' w.heap.size (fun k_ => some k_ ≠ (.slice Ao50 t287.length co50 : Value).ownBlock) (.slice Ao37 t279.length co37) t279) ∧ (Kd.R (Kd.int .i32) 37 w' w.heap.size (fun k_ => some k_ ≠ (.slice Ao37 t279.length co37 : Value).ownBlock) (.slice Ao50 t287.length co50) t287) ∧ (Kd.R Kd.string 9 w' w.heap.size (fun k_ => some k_ ≠ (s_.2.2.1 : Value).ownBlock) s_.1 y295) ∧ (Kd.R Kd.string 9 w' w.heap.size (fun k_ => some k_ ≠ (s_.1 : Value).ownBlock) s_.2.2.1 y300) ∧ (∃ c_, (s_.1 : Value) = .slice (some s_.2.1) y295.length c_) ∧ (∃ c_, (s_.2.2.1 : Value) = .slice (some s_.2.2.2) y300.length c_) ∧ (w'.heap[gb276]? = some (.cells #[.int .u8 a0_0, .bool a0_1, .bool a0_2, .slice Ao37 t279.length co37] 29 (0, 0))) ∧ (w'.heap[gb282]? = some (.cells #[.int .u8 (Int.tmod a2 5), .bool a3, .bool a4, .slice Ao37 t279.length co37] 29 (0, 0))) ∧ (w'.heap[gb290]? = some (.cells #[.int .u8 t284, .bool t285, .bool t286, .slice Ao50 t287.length co50] 29 (0, 0))) ∧ (Below w.heap.size w w')) ?_ ?_
                              rotate_left
                              · intro hJ16_20_22
                                refine join_ (σ := Value × Addr × Value × Addr) 6 #[true, true, true, true, true, true, true, true, true, true, true, true, true, true, true, true, true, true, true, true, false, false, true, true, true, true, true, false, false, false, false] (fun s_ => [(66, s_.1), (72, s_.2.2.1), (76, .string (rdOf ByteArray.empty y300 (ji30))), (69, .pointer (some (s_.2.1.add ((ji30)).toNat))), (75, .pointer (some (s_.2.2.2.add ((ji30)).toNat)))]) (fun s_ w' => (w'.cell? ⟨gb282, 0, none⟩ = some (.int .u8 (Int.tmod a2 5)) ∧ w'.cell? ⟨gb282, 1, none⟩ = some (.bool a3) ∧ w'.cell? ⟨gb282, 2, none⟩ = some (.bool a4) ∧ w'.cell? ⟨gb282, 3, none⟩ = some (.slice Ao37 t279.length co37)) ∧ (Kd.R (Kd.int .i32) 37 w' w.heap.size (fun k_ => some k_ ≠ (.slice Ao50 t287.length co50 : Value).ownBlock) (.slice Ao37 t279.length co37) t279) ∧ (Kd.R (Kd.int .i32) 37 w' w.heap.size (fun k_ => some k_ ≠ (.slice Ao37 t279.length co37 : Value).ownBlock) (.slice Ao50 t287.length co50) t287) ∧ (Kd.R Kd.string 9 w' w.heap.size (fun k_ => some k_ ≠ (s_.2.2.1 : Value).ownBlock) s_.1 y295) ∧ (Kd.R Kd.string 9 w' w.heap.size (fun k_ => some k_ ≠ (s_.1 : Value).ownBlock) s_.2.2.1 y300) ∧ (∃ c_, (s_.1 : Value) = .slice (some s_.2.1) y295.length c_) ∧ (∃ c_, (s_.2.2.1 : Value) = .slice (some s_.2.2.2) y300.length c_) ∧ (w'.heap[gb276]? = some (.cells #[.int .u8 a0_0, .bool a0_1, .bool a0_2, .slice Ao37 t279.length co37] 29 (0, 0))) ∧ (w'.heap[gb282]? = some (.cells #[.int .u8 (Int.tmod a2 5), .bool a3, .bool a4, .slice Ao37 t279.length co37] 29 (0, 0))) ∧ (w'.heap[gb290]? = some (.cells #[.int .u8 t284, .bool t285, .bool t286, .slice Ao50 t287.length co50] 29 (0, 0))) ∧ (Below w.heap.size w w')) ?_ ?_
                                rotate_left
                                · intro hJ16_22_26
                                  refine join_ (σ := Value × Addr) 8 #[true, true, true, true, true, true, true, true, true, true, true, true, true, true, true, true, true, true, true, true, true, false, false, true, true, false, false, false, false, false, false] (fun s_ => [(66, s_.1), (70, .string (rdOf ByteArray.empty y295 (ji30))), (69, .pointer (some (s_.2.add ((ji30)).toNat)))]) (fun s_ w' => (w'.cell? ⟨gb282, 0, none⟩ = some (.int .u8 (Int.tmod a2 5)) ∧ w'.cell? ⟨gb282, 1, none⟩ = some (.bool a3) ∧ w'.cell? ⟨gb282, 2, none⟩ = some (.bool a4) ∧ w'.cell? ⟨gb282, 3, none⟩ = some (.slice Ao37 t279.length co37)) ∧ (Kd.R (Kd.int .i32) 37 w' w.heap.size (fun k_ => some k_ ≠ (.slice Ao50 t287.length co50 : Value).ownBlock) (.slice Ao37 t279.length co37) t279) ∧ (Kd.R (Kd.int .i32) 37 w' w.heap.size (fun k_ => some k_ ≠ (.slice Ao37 t279.length co37 : Value).ownBlock) (.slice Ao50 t287.length co50) t287) ∧ (Kd.R Kd.string 9 w' w.heap.size (fun _ => True) s_.1 y295) ∧ (∃ c_, (s_.1 : Value) = .slice (some s_.2) y295.length c_) ∧ (w'.heap[gb276]? = some (.cells #[.int .u8 a0_0, .bool a0_1, .bool a0_2, .slice Ao37 t279.length co37] 29 (0, 0))) ∧ (w'.heap[gb282]? = some (.cells #[.int .u8 (Int.tmod a2 5), .bool a3, .bool a4, .slice Ao37 t279.length co37] 29 (0, 0))) ∧ (w'.heap[gb290]? = some (.cells #[.int .u8 t284, .bool t285, .bool t286, .slice Ao50 t287.length co50] 29 (0, 0))) ∧ (Below w.heap.size w w')) ?_ ?_
                                  rotate_left
                                  · intro hJ16_20
                                    refine join_ (σ := Value × Addr × Value × Addr) 7 #[true, true, true, true, true, true, true, true, true, true, true, true, true, true, true, true, true, true, true, true, false, false, true, true, true, true, false, false, false, false, false] (fun s_ => [(66, s_.1), (72, s_.2.2.1), (69, .pointer (some (s_.2.1.add ((ji30)).toNat))), (75, .pointer (some (s_.2.2.2.add ((ji30)).toNat)))]) (fun s_ w' => (w'.cell? ⟨gb282, 0, none⟩ = some (.int .u8 (Int.tmod a2 5)) ∧ w'.cell? ⟨gb282, 1, none⟩ = some (.bool a3) ∧ w'.cell? ⟨gb282, 2, none⟩ = some (.bool a4) ∧ w'.cell? ⟨gb282, 3, none⟩ = some (.slice Ao37 t279.length co37)) ∧ (Kd.R (Kd.int .i32) 37 w' w.heap.size (fun k_ => some k_ ≠ (.slice Ao50 t287.length co50 : Value).ownBlock) (.slice Ao37 t279.length co37) t279) ∧ (Kd.R (Kd.int .i32) 37 w' w.heap.size (fun k_ => some k_ ≠ (.slice Ao37 t279.length co37 : Value).ownBlock) (.slice Ao50 t287.length co50) t287) ∧ (Kd.R Kd.string 9 w' w.heap.size (fun k_ => some k_ ≠ (s_.2.2.1 : Value).ownBlock) s_.1 y295) ∧ (Kd.R Kd.string 9 w' w.heap.size (fun k_ => some k_ ≠ (s_.1 : Value).ownBlock) s_.2.2.1 y300) ∧ (∃ c_, (s_.1 : Value) = .slice (some s_.2.1) y295.length c_) ∧ (∃ c_, (s_.2.2.1 : Value) = .slice (some s_.2.2.2) y300.length c_) ∧ (w'.heap[gb276]? = some (.cells #[.int .u8 a0_0, .bool a0_1, .bool a0_2, .slice Ao37 t279.length co37] 29 (0, 0))) ∧ (w'.heap[gb282]? = some (.cells #[.int .u8 (Int.tmod a2 5), .bool a3, .bool a4, .slice Ao37 t279.length co37] 29 (0, 0))) ∧ (w'.heap[gb290]? = some (.cells #[.int .u8 t284, .bool t285, .bool t286, .slice Ao50 t287.length co50] 29 (0, 0))) ∧ (Below w.heap.size w w')) ?_ ?_
                                    rotate_left
                                    · intro hJ16_22
                                      refine join_ (σ := Value × Addr) 8 #[true, true, true, true, true, true, true, true, true, true, true, true, true, true, true, true, false, true, true, false, false, false, true, true, true, true, true, false, false, false, false] (fun s_ => [(72, s_.1), (76, .string (rdOf ByteArray.empty y300 (ji30))), (75, .pointer (some (s_.2.add ((ji30)).toNat)))]) (fun s_ w' => (w'.cell? ⟨gb282, 0, none⟩ = some (.int .u8 (Int.tmod a2 5)) ∧ w'.cell? ⟨gb282, 1, none⟩ = some (.bool a3) ∧ w'.cell? ⟨gb282, 2, none⟩ = some (.bool a4) ∧ w'.cell? ⟨gb282, 3, none⟩ = some (.slice Ao37 t279.length co37)) ∧ (Kd.R (Kd.int .i32) 37 w' w.heap.size (fun k_ => some k_ ≠ (.slice Ao50 t287.length co50 : Value).ownBlock) (.slice Ao37 t279.length co37) t279) ∧ (Kd.R (Kd.int .i32) 37 w' w.heap.size (fun k_ => some k_ ≠ (.slice Ao37 t279.length co37 : Value).ownBlock) (.slice Ao50 t287.length co50) t287) ∧ (Kd.R Kd.string 9 w' w.heap.size (fun _ => True) s_.1 y300) ∧ (∃ c_, (s_.1 : Value) = .slice (some s_.2) y300.length c_) ∧ (w'.heap[gb276]? = some (.cells #[.int .u8 a0_0, .bool a0_1, .bool a0_2, .slice Ao37 t279.length co37] 29 (0, 0))) ∧ (w'.heap[gb282]? = some (.cells #[.int .u8 (Int.tmod a2 5), .bool a3, .bool a4, .slice Ao37 t279.length co37] 29 (0, 0))) ∧ (w'.heap[gb290]? = some (.cells #[.int .u8 t284, .bool t285, .bool t286, .slice Ao50 t287.length co50] 29 (0, 0))) ∧ (Below w.heap.size w w')) ?_ ?_
                                      rotate_left
                                      · intro hJ22_26
                                        refine join_ (σ := Value × Addr) 9 #[true, true, true, true, true, true, true, true, true, true, true, true, true, true, true, true, true, true, true, true, false, false, false, true, true, false, false, false, false, false, false] (fun s_ => [(66, s_.1), (69, .pointer (some (s_.2.add ((ji30)).toNat)))]) (fun s_ w' => (w'.cell? ⟨gb282, 0, none⟩ = some (.int .u8 (Int.tmod a2 5)) ∧ w'.cell? ⟨gb282, 1, none⟩ = some (.bool a3) ∧ w'.cell? ⟨gb282, 2, none⟩ = some (.bool a4) ∧ w'.cell? ⟨gb282, 3, none⟩ = some (.slice Ao37 t279.length co37)) ∧ (Kd.R (Kd.int .i32) 37 w' w.heap.size (fun k_ => some k_ ≠ (.slice Ao50 t287.length co50 : Value).ownBlock) (.slice Ao37 t279.length co37) t279) ∧ (Kd.R (Kd.int .i32) 37 w' w.heap.size (fun k_ => some k_ ≠ (.slice Ao37 t279.length co37 : Value).ownBlock) (.slice Ao50 t287.length co50) t287) ∧ (Kd.R Kd.string 9 w' w.heap.size (fun _ => True) s_.1 y295) ∧ (∃ c_, (s_.1 : Value) = .slice (some s_.2) y295.length c_) ∧ (w'.heap[gb276]? = some (.cells #[.int .u8 a0_0, .bool a0_1, .bool a0_2, .slice Ao37 t279.length co37] 29 (0, 0))) ∧ (w'.heap[gb282]? = some (.cells #[.int .u8 (Int.tmod a2 5), .bool a3, .bool a4, .slice Ao37 t279.length co37] 29 (0, 0))) ∧ (w'.heap[gb290]? = some (.cells #[.int .u8 t284, .bool t285, .bool t286, .slice Ao50 t287.length co50] 29 (0, 0))) ∧ (Below w.heap.size w w')) ?_ ?_
                                        rotate_left
                                        · intro hJ16
                                          refine join_ (σ := Value × Addr) 9 #[true, true, true, true, true, true, true, true, true, true, true, true, true, true, true, true, false, true, true, false, false, false, true, true, true, true, false, false, false, false, false] (fun s_ => [(72, s_.1), (75, .pointer (some (s_.2.add ((ji30)).toNat)))]) (fun s_ w' => (w'.cell? ⟨gb282, 0, none⟩ = some (.int .u8 (Int.tmod a2 5)) ∧ w'.cell? ⟨gb282, 1, none⟩ = some (.bool a3) ∧ w'.cell? ⟨gb282, 2, none⟩ = some (.bool a4) ∧ w'.cell? ⟨gb282, 3, none⟩ = some (.slice Ao37 t279.length co37)) ∧ (Kd.R (Kd.int .i32) 37 w' w.heap.size (fun k_ => some k_ ≠ (.slice Ao50 t287.length co50 : Value).ownBlock) (.slice Ao37 t279.length co37) t279) ∧ (Kd.R (Kd.int .i32) 37 w' w.heap.size (fun k_ => some k_ ≠ (.slice Ao37 t279.length co37 : Value).ownBlock) (.slice Ao50 t287.length co50) t287) ∧ (Kd.R Kd.string 9 w' w.heap.size (fun _ => True) s_.1 y300) ∧ (∃ c_, (s_.1 : Value) = .slice (some s_.2) y300.length c_) ∧ (w'.heap[gb276]? = some (.cells #[.int .u8 a0_0, .bool a0_1, .bool a0_2, .slice Ao37 t279.length co37] 29 (0, 0))) ∧ (w'.heap[gb282]? = some (.cells #[.int .u8 (Int.tmod a2 5), .bool a3, .bool a4, .slice Ao37 t279.length co37] 29 (0, 0))) ∧ (w'.heap[gb290]? = some (.cells #[.int .u8 t284, .bool t285, .bool t286, .slice Ao50 t287.length co50] 29 (0, 0))) ∧ (Below w.heap.size w w')) ?_ ?_
                                          rotate_left
                                          · intro hJ22
                                            refine two_ (i := 16) (j := 22) (Ni := some 66) (Nj := some 72) #[true, true, true, true, true, true, true, true, true, true, true, true, true, true, true, true, true, true, true, false, false, false, false, true, true, false, false, false, false, false, false] #[true, true, true, true, true, true, true, true, true, true, true, true, true, true, true, true, false, true, true, false, false, false, true, true, true, false, false, false, false, false, false] rfl rfl rfl rfl (two_of HT_.out (by kernel_rfl)) (by decide) (by decide) (fun K hK => ?_) (fun K hK => ?_)
                                            · skip
                                              refine Kd.R_lit_step Kd.string _ 9 ?hg (N := 66) ?hd (xs := ([(⟨#[117, 116, 102, 45, 56]⟩ : ByteArray), (⟨#[117, 116, 102, 45, 49, 54]⟩ : ByteArray), (⟨#[108, 97, 116, 105, 110, 49]⟩ : ByteArray), (⟨#[]⟩ : ByteArray)] : List ByteArray)) (inner := [.string (⟨#[117, 116, 102, 45, 56]⟩ : ByteArray), .string (⟨#[117, 116, 102, 45, 49, 54]⟩ : ByteArray), .string (⟨#[108, 97, 116, 105, 110, 49]⟩ : ByteArray), .string (⟨#[]⟩ : ByteArray)]) (ok := fun _ => True) (okp := fun _ => True) ?hr ?hp (fun _ hk => hk) trivial (Below.refl _ _) (Nat.le_refl _) (by simp) ?_; (case hd => rfl); (case hg => rfl); (case hr => first | (go_simp; done) | (go_simp; rfl)); (case hp => exact (Reps.one (show Kd.M Kd.string _ _ _ (⟨#[117, 116, 102, 45, 56]⟩ : ByteArray) [.string (⟨#[117, 116, 102, 45, 56]⟩ : ByteArray)] from rfl) (Reps.one (show Kd.M Kd.string _ _ _ (⟨#[117, 116, 102, 45, 49, 54]⟩ : ByteArray) [.string (⟨#[117, 116, 102, 45, 49, 54]⟩ : ByteArray)] from rfl) (Reps.one (show Kd.M Kd.string _ _ _ (⟨#[108, 97, 116, 105, 110, 49]⟩ : ByteArray) [.string (⟨#[108, 97, 116, 105, 110, 49]⟩ : ByteArray)] from rfl) (Reps.one (show Kd.M Kd.string _ _ _ (⟨#[]⟩ : ByteArray) [.string (⟨#[]⟩ : ByteArray)] from rfl) (Reps.none _ _))))))
                                              intro v296 w57 ho58 hb hg_ hnew_
                                              clear hg_ hnew_
                                              (first | rw [← Ny295.out] at ho58 | (simp only [Int.reduceToNat] at ho58; rw [← Ny295.out] at ho58))
                                              have n0_ := Aside0.mk (Kd.R_below (by (with_reducible repeat (first | apply Kd.R_alloc | apply Kd.R_drewN | apply Kd.R_drew)); exact HO281.out) hb)
                                              have n1_ := Aside0.mk (Kd.R_below (by (with_reducible repeat (first | apply Kd.R_alloc | apply Kd.R_drewN | apply Kd.R_drew)); exact HO289.out) hb)
                                              have n2_ := Aside0.mk (Kd.R_lower ho58 (below_size (by repeat (first | (with_reducible first | exact HB.out | apply below_alloc | apply pw_below_drewN | apply below_drew1 | refine below_set ?_ GE276.out | refine below_set ?_ GE282.out | refine below_set ?_ GE290.out) | exact HB.out))))
                                              have n3_ := Aside0.mk (blk_below (g := gb276) (o := .cells #[.int .u8 a0_0, .bool a0_1, .bool a0_2, .slice Ao37 t279.length co37] 29 (0, 0)) (by (with_reducible repeat (first | refine blk_drewN ?_ _ | refine blk_drew ?_ | refine blk_alloc ?_ _)); exact BK276.out) hb)
                                              have n4_ := Aside0.mk (blk_below (g := gb282) (o := .cells #[.int .u8 (Int.tmod a2 5), .bool a3, .bool a4, .slice Ao37 t279.length co37] 29 (0, 0)) (by (with_reducible repeat (first | refine blk_drewN ?_ _ | refine blk_drew ?_ | refine blk_alloc ?_ _)); exact BK282.out) hb)
                                              have n5_ := Aside0.mk (blk_below (g := gb290) (o := .cells #[.int .u8 t284, .bool t285, .bool t286, .slice Ao50 t287.length co50] 29 (0, 0)) (by (with_reducible repeat (first | refine blk_drewN ?_ _ | refine blk_drew ?_ | refine blk_alloc ?_ _)); exact BK290.out) hb)
                                              have n6_ := Aside0.mk (below_step (by repeat (first | (with_reducible first | exact HB.out | apply below_alloc | apply pw_below_drewN | apply below_drew1 | refine below_set ?_ GE276.out | refine below_set ?_ GE282.out | refine below_set ?_ GE290.out) | exact HB.out)) hb)
                                              clear HO281
                                              clear HO289
                                              clear BK276
                                              clear BK282
                                              clear BK290
                                              clear HB
                                              have HO281 := n0_
                                              have HO289 := n1_
                                              have HO297 := n2_
                                              have BK276 := n3_
                                              have BK282 := n4_
                                              have BK290 := n5_
                                              have HB := n6_
                                              clear n0_ n1_ n2_ n3_ n4_ n5_ n6_
                                              clear hb ho58
                                              obtain ⟨Ao59, co59, eo59⟩ := Kd.R_slice HO297.out
                                              subst eo59
                                              obtain ⟨ado59, fo59, _⟩ := Kd.at_string (Kd.R_reads' HO297.out).2.2 0 (by decide) (by rw [Ny295.out]; simp)
                                              cases fo59
                                              refine hK.out _ _ ⟨(blk_cell BK282.out 0).trans rfl, (blk_cell BK282.out 1).trans rfl, (blk_cell BK282.out 2).trans rfl, (blk_cell BK282.out 3).trans rfl⟩ (fun hHeld => ?_)
                                              clear hK K
                                              refine norm_ (a' := ?_) ?_ ?_
                                              rotate_left
                                              · show Act.put _ (some 66) _ = _
                                                simp only [Act.put, List.setIfInBounds_toArray, List.set_cons_zero, List.set_cons_succ, i64_w, i32_w]
                                                rfl
                                              refine pure_ (i := 19) (N := some 69) (v := ?_) (a' := ?_) #[true, true, true, true, true, true, true, true, true, true, true, true, true, true, true, true, true, true, true, true, false, false, false, true, true, false, false, false, false, false, false] rfl rfl (any_of HT_.out (by kernel_rfl)) (fun _ _ _ h => h) (Or.inl ⟨by rfl, ?_⟩) ?_ ?_
                                              rotate_left
                                              · intro w'
                                                go_simp
                                                with_reducible rfl
                                              rotate_left
                                              · simp only [Act.put, List.setIfInBounds_toArray, List.set_cons_zero, List.set_cons_succ, i64_w, i32_w]
                                                rfl
                                              exact norm_ (by first | (simp only [putAll, Act.put, List.setIfInBounds_toArray, List.set_cons_zero, List.set_cons_succ]; done) | (simp only [putAll, Act.put, List.setIfInBounds_toArray, List.set_cons_zero, List.set_cons_succ]; rfl)) (hJ16 (.slice (some ado59) y295.length co59, ado59) _ ⟨hHeld, (by (with_reducible repeat (first | apply Kd.R_alloc | apply Kd.R_drewN | apply Kd.R_drew)); exact Kd.R_mono HO281.out (fun _ hk => hk.2)), (by (with_reducible repeat (first | apply Kd.R_alloc | apply Kd.R_drewN | apply Kd.R_drew)); exact Kd.R_mono HO289.out (fun _ hk => hk.2)), (by (with_reducible repeat (first | apply Kd.R_alloc | apply Kd.R_drewN | apply Kd.R_drew)); exact HO297.out), ⟨_, rfl⟩, (by (with_reducible repeat (first | refine blk_drewN ?_ _ | refine blk_drew ?_ | refine blk_alloc ?_ _)); exact BK276.out), (by (with_reducible repeat (first | refine blk_drewN ?_ _ | refine blk_drew ?_ | refine blk_alloc ?_ _)); exact BK282.out), (by (with_reducible repeat (first | refine blk_drewN ?_ _ | refine blk_drew ?_ | refine blk_alloc ?_ _)); exact BK290.out), (by repeat (first | (with_reducible first | exact HB.out | apply below_alloc | apply pw_below_drewN | apply below_drew1 | refine below_set ?_ GE276.out | refine below_set ?_ GE282.out | refine below_set ?_ GE290.out) | exact HB.out))⟩)
                                            · skip
                                              refine Kd.R_lit_step Kd.string _ 9 ?hg (N := 72) ?hd (xs := ([(⟨#[117, 116, 102, 45, 56]⟩ : ByteArray), (⟨#[117, 116, 102, 45, 49, 54]⟩ : ByteArray), (⟨#[108, 97, 116, 105, 110, 49]⟩ : ByteArray), (⟨#[]⟩ : ByteArray)] : List ByteArray)) (inner := [.string (⟨#[117, 116, 102, 45, 56]⟩ : ByteArray), .string (⟨#[117, 116, 102, 45, 49, 54]⟩ : ByteArray), .string (⟨#[108, 97, 116, 105, 110, 49]⟩ : ByteArray), .string (⟨#[]⟩ : ByteArray)]) (ok := fun _ => True) (okp := fun _ => True) ?hr ?hp (fun _ hk => hk) trivial (Below.refl _ _) (Nat.le_refl _) (by simp) ?_; (case hd => rfl); (case hg => rfl); (case hr => first | (go_simp; done) | (go_simp; rfl)); (case hp => exact (Reps.one (show Kd.M Kd.string _ _ _ (⟨#[117, 116, 102, 45, 56]⟩ : ByteArray) [.string (⟨#[117, 116, 102, 45, 56]⟩ : ByteArray)] from rfl) (Reps.one (show Kd.M Kd.string _ _ _ (⟨#[117, 116, 102, 45, 49, 54]⟩ : ByteArray) [.string (⟨#[117, 116, 102, 45, 49, 54]⟩ : ByteArray)] from rfl) (Reps.one (show Kd.M Kd.string _ _ _ (⟨#[108, 97, 116, 105, 110, 49]⟩ : ByteArray) [.string (⟨#[108, 97, 116, 105, 110, 49]⟩ : ByteArray)] from rfl) (Reps.one (show Kd.M Kd.string _ _ _ (⟨#[]⟩ : ByteArray) [.string (⟨#[]⟩ : ByteArray)] from rfl) (Reps.none _ _))))))
                                              intro v301 w57 ho58 hb hg_ hnew_
                                              clear hg_ hnew_
                                              (first | rw [← Ny300.out] at ho58 | (simp only [Int.reduceToNat] at ho58; rw [← Ny300.out] at ho58))
                                              have n0_ := Aside0.mk (Kd.R_below (by (with_reducible repeat (first | apply Kd.R_alloc | apply Kd.R_drewN | apply Kd.R_drew)); exact HO281.out) hb)
                                              have n1_ := Aside0.mk (Kd.R_below (by (with_reducible repeat (first | apply Kd.R_alloc | apply Kd.R_drewN | apply Kd.R_drew)); exact HO289.out) hb)
                                              have n2_ := Aside0.mk (Kd.R_lower ho58 (below_size (by repeat (first | (with_reducible first | exact HB.out | apply below_alloc | apply pw_below_drewN | apply below_drew1 | refine below_set ?_ GE276.out | refine below_set ?_ GE282.out | refine below_set ?_ GE290.out) | exact HB.out))))
                                              have n3_ := Aside0.mk (blk_below (g := gb276) (o := .cells #[.int .u8 a0_0, .bool a0_1, .bool a0_2, .slice Ao37 t279.length co37] 29 (0, 0)) (by (with_reducible repeat (first | refine blk_drewN ?_ _ | refine blk_drew ?_ | refine blk_alloc ?_ _)); exact BK276.out) hb)
                                              have n4_ := Aside0.mk (blk_below (g := gb282) (o := .cells #[.int .u8 (Int.tmod a2 5), .bool a3, .bool a4, .slice Ao37 t279.length co37] 29 (0, 0)) (by (with_reducible repeat (first | refine blk_drewN ?_ _ | refine blk_drew ?_ | refine blk_alloc ?_ _)); exact BK282.out) hb)
                                              have n5_ := Aside0.mk (blk_below (g := gb290) (o := .cells #[.int .u8 t284, .bool t285, .bool t286, .slice Ao50 t287.length co50] 29 (0, 0)) (by (with_reducible repeat (first | refine blk_drewN ?_ _ | refine blk_drew ?_ | refine blk_alloc ?_ _)); exact BK290.out) hb)
                                              have n6_ := Aside0.mk (below_step (by repeat (first | (with_reducible first | exact HB.out | apply below_alloc | apply pw_below_drewN | apply below_drew1 | refine below_set ?_ GE276.out | refine below_set ?_ GE282.out | refine below_set ?_ GE290.out) | exact HB.out)) hb)
                                              clear HO281
                                              clear HO289
                                              clear BK276
                                              clear BK282
                                              clear BK290
                                              clear HB
                                              have HO281 := n0_
                                              have HO289 := n1_
                                              have HO302 := n2_
                                              have BK276 := n3_
                                              have BK282 := n4_
                                              have BK290 := n5_
                                              have HB := n6_
                                              clear n0_ n1_ n2_ n3_ n4_ n5_ n6_
                                              clear hb ho58
                                              obtain ⟨Ao59, co59, eo59⟩ := Kd.R_slice HO302.out
                                              subst eo59
                                              obtain ⟨ado59, fo59, _⟩ := Kd.at_string (Kd.R_reads' HO302.out).2.2 0 (by decide) (by rw [Ny300.out]; simp)
                                              cases fo59
                                              refine hK.out _ _ ⟨(blk_cell BK282.out 0).trans rfl, (blk_cell BK282.out 1).trans rfl, (blk_cell BK282.out 2).trans rfl, (blk_cell BK282.out 3).trans rfl⟩ (fun hHeld => ?_)
                                              clear hK K
                                              refine norm_ (a' := ?_) ?_ ?_
                                              rotate_left
                                              · show Act.put _ (some 72) _ = _
                                                simp only [Act.put, List.setIfInBounds_toArray, List.set_cons_zero, List.set_cons_succ, i64_w, i32_w]
                                                rfl
                                              refine pure_ (i := 25) (N := some 75) (v := ?_) (a' := ?_) #[true, true, true, true, true, true, true, true, true, true, true, true, true, true, true, true, false, true, true, false, false, false, true, true, true, true, false, false, false, false, false] rfl rfl (any_of HT_.out (by kernel_rfl)) (fun _ _ _ h => h) (Or.inl ⟨by rfl, ?_⟩) ?_ ?_
                                              rotate_left
                                              · intro w'
                                                go_simp
                                                with_reducible rfl
                                              rotate_left
                                              · simp only [Act.put, List.setIfInBounds_toArray, List.set_cons_zero, List.set_cons_succ, i64_w, i32_w]
                                                rfl
                                              exact norm_ (by first | (simp only [putAll, Act.put, List.setIfInBounds_toArray, List.set_cons_zero, List.set_cons_succ]; done) | (simp only [putAll, Act.put, List.setIfInBounds_toArray, List.set_cons_zero, List.set_cons_succ]; rfl)) (hJ22 (.slice (some ado59) y300.length co59, ado59) _ ⟨hHeld, (by (with_reducible repeat (first | apply Kd.R_alloc | apply Kd.R_drewN | apply Kd.R_drew)); exact Kd.R_mono HO281.out (fun _ hk => hk.2)), (by (with_reducible repeat (first | apply Kd.R_alloc | apply Kd.R_drewN | apply Kd.R_drew)); exact Kd.R_mono HO289.out (fun _ hk => hk.2)), (by (with_reducible repeat (first | apply Kd.R_alloc | apply Kd.R_drewN | apply Kd.R_drew)); exact HO302.out), ⟨_, rfl⟩, (by (with_reducible repeat (first | refine blk_drewN ?_ _ | refine blk_drew ?_ | refine blk_alloc ?_ _)); exact BK276.out), (by (with_reducible repeat (first | refine blk_drewN ?_ _ | refine blk_drew ?_ | refine blk_alloc ?_ _)); exact BK282.out), (by (with_reducible repeat (first | refine blk_drewN ?_ _ | refine blk_drew ?_ | refine blk_alloc ?_ _)); exact BK290.out), (by repeat (first | (with_reducible first | exact HB.out | apply below_alloc | apply pw_below_drewN | apply below_drew1 | refine below_set ?_ GE276.out | refine below_set ?_ GE282.out | refine below_set ?_ GE290.out) | exact HB.out))⟩)
                                          · skip
                                            rintro ⟨v301, adz_v301⟩ w60 ⟨hS_, h0_, h1_, h2_, h3_, h4_, h5_, h6_, h7_⟩
                                            have n0_ : Aside0 (Kd.R (Kd.int .i32) 37 w60 w.heap.size (fun k_ => some k_ ≠ (.slice Ao50 t287.length co50 : Value).ownBlock) (.slice Ao37 t279.length co37) t279) := ⟨h0_⟩
                                            have n1_ : Aside0 (Kd.R (Kd.int .i32) 37 w60 w.heap.size (fun k_ => some k_ ≠ (.slice Ao37 t279.length co37 : Value).ownBlock) (.slice Ao50 t287.length co50) t287) := ⟨h1_⟩
                                            have n2_ : Aside0 (Kd.R Kd.string 9 w60 w.heap.size (fun _ => True) v301 y300) := ⟨h2_⟩
                                            have n3_ : Aside0 (∃ c_, (v301 : Value) = .slice (some adz_v301) y300.length c_) := ⟨h3_⟩
                                            have n4_ : Aside0 (w60.heap[gb276]? = some (.cells #[.int .u8 a0_0, .bool a0_1, .bool a0_2, .slice Ao37 t279.length co37] 29 (0, 0))) := ⟨h4_⟩
                                            have n5_ : Aside0 (w60.heap[gb282]? = some (.cells #[.int .u8 (Int.tmod a2 5), .bool a3, .bool a4, .slice Ao37 t279.length co37] 29 (0, 0))) := ⟨h5_⟩
                                            have n6_ : Aside0 (w60.heap[gb290]? = some (.cells #[.int .u8 t284, .bool t285, .bool t286, .slice Ao50 t287.length co50] 29 (0, 0))) := ⟨h6_⟩
                                            have n7_ : Aside0 (Below w.heap.size w w60) := ⟨h7_⟩
                                            clear HO281
                                            clear HO289
                                            clear BK276
                                            clear BK282
                                            clear BK290
                                            clear HB
                                            clear h0_ h1_ h2_ h3_ h4_ h5_ h6_ h7_
                                            have HO281 := n0_
                                            have HO289 := n1_
                                            have HO302 := n2_
                                            have HA_HO302 := n3_
                                            have BK276 := n4_
                                            have BK282 := n5_
                                            have BK290 := n6_
                                            have HB := n7_
                                            clear n0_ n1_ n2_ n3_ n4_ n5_ n6_ n7_
                                            have hHeld : w60.cell? ⟨gb282, 0, none⟩ = some (.int .u8 (Int.tmod a2 5)) ∧ w60.cell? ⟨gb282, 1, none⟩ = some (.bool a3) ∧ w60.cell? ⟨gb282, 2, none⟩ = some (.bool a4) ∧ w60.cell? ⟨gb282, 3, none⟩ = some (.slice Ao37 t279.length co37) := hS_
                                            obtain ⟨co61, eo61⟩ := HA_HO302.out
                                            clear HA_HO302
                                            subst eo61
                                            refine norm_ (a' := ?_) ?_ ?_
                                            rotate_left
                                            · simp only [putAll, Act.put, List.setIfInBounds_toArray, List.set_cons_zero, List.set_cons_succ]
                                              rfl
                                            refine two_ (i := 16) (j := 26) (Ni := some 66) (Nj := some 76) #[true, true, true, true, true, true, true, true, true, true, true, true, true, true, true, true, true, true, true, false, false, false, true, true, true, true, false, false, false, false, false] #[true, true, true, true, true, true, true, true, true, true, true, true, true, true, true, true, false, true, true, false, false, false, true, true, true, true, true, false, false, false, false] rfl rfl rfl rfl (two_of HT_.out (by kernel_rfl)) (by decide) (by decide) (fun K hK => ?_) (fun K hK => ?_)
                                            · skip
                                              refine Kd.R_lit_step Kd.string _ 9 ?hg (N := 66) ?hd (xs := ([(⟨#[117, 116, 102, 45, 56]⟩ : ByteArray), (⟨#[117, 116, 102, 45, 49, 54]⟩ : ByteArray), (⟨#[108, 97, 116, 105, 110, 49]⟩ : ByteArray), (⟨#[]⟩ : ByteArray)] : List ByteArray)) (inner := [.string (⟨#[117, 116, 102, 45, 56]⟩ : ByteArray), .string (⟨#[117, 116, 102, 45, 49, 54]⟩ : ByteArray), .string (⟨#[108, 97, 116, 105, 110, 49]⟩ : ByteArray), .string (⟨#[]⟩ : ByteArray)]) (ok := fun _ => True) (okp := fun _ => True) ?hr ?hp (fun _ hk => hk) trivial (Below.refl _ _) (Nat.le_refl _) (by simp) ?_; (case hd => rfl); (case hg => rfl); (case hr => first | (go_simp; done) | (go_simp; rfl)); (case hp => exact (Reps.one (show Kd.M Kd.string _ _ _ (⟨#[117, 116, 102, 45, 56]⟩ : ByteArray) [.string (⟨#[117, 116, 102, 45, 56]⟩ : ByteArray)] from rfl) (Reps.one (show Kd.M Kd.string _ _ _ (⟨#[117, 116, 102, 45, 49, 54]⟩ : ByteArray) [.string (⟨#[117, 116, 102, 45, 49, 54]⟩ : ByteArray)] from rfl) (Reps.one (show Kd.M Kd.string _ _ _ (⟨#[108, 97, 116, 105, 110, 49]⟩ : ByteArray) [.string (⟨#[108, 97, 116, 105, 110, 49]⟩ : ByteArray)] from rfl) (Reps.one (show Kd.M Kd.string _ _ _ (⟨#[]⟩ : ByteArray) [.string (⟨#[]⟩ : ByteArray)] from rfl) (Reps.none _ _))))))
                                              intro v296 w62 ho63 hb hg_ hnew_
                                              clear hg_ hnew_
                                              (first | rw [← Ny295.out] at ho63 | (simp only [Int.reduceToNat] at ho63; rw [← Ny295.out] at ho63))
                                              have n0_ := Aside0.mk (Kd.R_below (by (with_reducible repeat (first | apply Kd.R_alloc | apply Kd.R_drewN | apply Kd.R_drew)); exact HO281.out) hb)
                                              have n1_ := Aside0.mk (Kd.R_below (by (with_reducible repeat (first | apply Kd.R_alloc | apply Kd.R_drewN | apply Kd.R_drew)); exact HO289.out) hb)
                                              have n2_ := Aside0.mk (Kd.R_elder' (by (with_reducible repeat (first | apply Kd.R_alloc | apply Kd.R_drewN | apply Kd.R_drew)); exact HO302.out) (Kd.R_base ho63) hb)
                                              have n3_ := Aside0.mk (Kd.R_lower (Kd.R_new' ho63 (Kd.R_lt (by (with_reducible repeat (first | apply Kd.R_alloc | apply Kd.R_drewN | apply Kd.R_drew)); exact HO302.out))) (below_size (by repeat (first | (with_reducible first | exact HB.out | apply below_alloc | apply pw_below_drewN | apply below_drew1 | refine below_set ?_ GE276.out | refine below_set ?_ GE282.out | refine below_set ?_ GE290.out) | exact HB.out))))
                                              have n4_ := Aside0.mk (blk_below (g := gb276) (o := .cells #[.int .u8 a0_0, .bool a0_1, .bool a0_2, .slice Ao37 t279.length co37] 29 (0, 0)) (by (with_reducible repeat (first | refine blk_drewN ?_ _ | refine blk_drew ?_ | refine blk_alloc ?_ _)); exact BK276.out) hb)
                                              have n5_ := Aside0.mk (blk_below (g := gb282) (o := .cells #[.int .u8 (Int.tmod a2 5), .bool a3, .bool a4, .slice Ao37 t279.length co37] 29 (0, 0)) (by (with_reducible repeat (first | refine blk_drewN ?_ _ | refine blk_drew ?_ | refine blk_alloc ?_ _)); exact BK282.out) hb)
                                              have n6_ := Aside0.mk (blk_below (g := gb290) (o := .cells #[.int .u8 t284, .bool t285, .bool t286, .slice Ao50 t287.length co50] 29 (0, 0)) (by (with_reducible repeat (first | refine blk_drewN ?_ _ | refine blk_drew ?_ | refine blk_alloc ?_ _)); exact BK290.out) hb)
                                              have n7_ := Aside0.mk (below_step (by repeat (first | (with_reducible first | exact HB.out | apply below_alloc | apply pw_below_drewN | apply below_drew1 | refine below_set ?_ GE276.out | refine below_set ?_ GE282.out | refine below_set ?_ GE290.out) | exact HB.out)) hb)
                                              clear HO281
                                              clear HO289
                                              clear HO302
                                              clear BK276
                                              clear BK282
                                              clear BK290
                                              clear HB
                                              have HO281 := n0_
                                              have HO289 := n1_
                                              have HO302 := n2_
                                              have HO297 := n3_
                                              have BK276 := n4_
                                              have BK282 := n5_
                                              have BK290 := n6_
                                              have HB := n7_
                                              clear n0_ n1_ n2_ n3_ n4_ n5_ n6_ n7_
                                              clear hb ho63
                                              obtain ⟨Ao64, co64, eo64⟩ := Kd.R_slice HO297.out
                                              subst eo64
                                              obtain ⟨ado64, fo64, _⟩ := Kd.at_string (Kd.R_reads' HO297.out).2.2 0 (by decide) (by rw [Ny295.out]; simp)
                                              cases fo64
                                              refine hK.out _ _ ⟨(blk_cell BK282.out 0).trans rfl, (blk_cell BK282.out 1).trans rfl, (blk_cell BK282.out 2).trans rfl, (blk_cell BK282.out 3).trans rfl⟩ (fun hHeld => ?_)
                                              clear hK K
                                              refine norm_ (a' := ?_) ?_ ?_
                                              rotate_left
                                              · show Act.put _ (some 66) _ = _
                                                simp only [Act.put, List.setIfInBounds_toArray, List.set_cons_zero, List.set_cons_succ, i64_w, i32_w]
                                                rfl
                                              refine pure_ (i := 19) (N := some 69) (v := ?_) (a' := ?_) #[true, true, true, true, true, true, true, true, true, true, true, true, true, true, true, true, true, true, true, true, false, false, true, true, true, true, false, false, false, false, false] rfl rfl (any_of HT_.out (by kernel_rfl)) (fun _ _ _ h => h) (Or.inl ⟨by rfl, ?_⟩) ?_ ?_
                                              rotate_left
                                              · intro w'
                                                go_simp
                                                with_reducible rfl
                                              rotate_left
                                              · simp only [Act.put, List.setIfInBounds_toArray, List.set_cons_zero, List.set_cons_succ, i64_w, i32_w]
                                                rfl
                                              exact norm_ (by first | (simp only [putAll, Act.put, List.setIfInBounds_toArray, List.set_cons_zero, List.set_cons_succ]; done) | (simp only [putAll, Act.put, List.setIfInBounds_toArray, List.set_cons_zero, List.set_cons_succ]; rfl)) (hJ16_22 (.slice (some ado64) y295.length co64, ado64, .slice (some adz_v301) y300.length co61, adz_v301) _ ⟨hHeld, (by (with_reducible repeat (first | apply Kd.R_alloc | apply Kd.R_drewN | apply Kd.R_drew)); exact HO281.out), (by (with_reducible repeat (first | apply Kd.R_alloc | apply Kd.R_drewN | apply Kd.R_drew)); exact HO289.out), (by (with_reducible repeat (first | apply Kd.R_alloc | apply Kd.R_drewN | apply Kd.R_drew)); exact Kd.R_mono HO297.out (fun _ hk => hk.2)), (by (with_reducible repeat (first | apply Kd.R_alloc | apply Kd.R_drewN | apply Kd.R_drew)); exact Kd.R_mono HO302.out (fun _ hk => hk.2)), ⟨_, rfl⟩, ⟨_, rfl⟩, (by (with_reducible repeat (first | refine blk_drewN ?_ _ | refine blk_drew ?_ | refine blk_alloc ?_ _)); exact BK276.out), (by (with_reducible repeat (first | refine blk_drewN ?_ _ | refine blk_drew ?_ | refine blk_alloc ?_ _)); exact BK282.out), (by (with_reducible repeat (first | refine blk_drewN ?_ _ | refine blk_drew ?_ | refine blk_alloc ?_ _)); exact BK290.out), (by repeat (first | (with_reducible first | exact HB.out | apply below_alloc | apply pw_below_drewN | apply below_drew1 | refine below_set ?_ GE276.out | refine below_set ?_ GE282.out | refine below_set ?_ GE290.out) | exact HB.out))⟩)
                                            · skip
                                              (have p303 : 0 ≤ ((ji30) : Int) := of_decide_eq_true (by first | (with_reducible assumption) | assumption); have q303 : (ji30) < (y300.length : Int) := of_decide_eq_true (by first | (with_reducible assumption) | assumption); obtain ⟨ad303, e303, hx303_0⟩ := Kd.at_string (Kd.R_reads' HO302.out).2.2 (ji30) p303 q303; obtain rfl : adz_v301 = ad303 := (by injection e303))
                                              refine value_ (w1 := ?_) (v := ?_) (by rfl) rfl ?_ ?_
                                              rotate_left 2
                                              · go_simp
                                                constructor
                                                · rfl
                                                · rfl
                                              clear hx303_0
                                              refine hK.out _ _ ⟨(blk_cell BK282.out 0).trans rfl, (blk_cell BK282.out 1).trans rfl, (blk_cell BK282.out 2).trans rfl, (blk_cell BK282.out 3).trans rfl⟩ (fun hHeld => ?_)
                                              clear hK K
                                              refine norm_ (a' := ?_) ?_ ?_
                                              rotate_left
                                              · show Act.put _ (some 76) _ = _
                                                simp only [Act.put, List.setIfInBounds_toArray, List.set_cons_zero, List.set_cons_succ, i64_w, i32_w]
                                                rfl
                                              exact norm_ (by first | (simp only [putAll, Act.put, List.setIfInBounds_toArray, List.set_cons_zero, List.set_cons_succ]; done) | (simp only [putAll, Act.put, List.setIfInBounds_toArray, List.set_cons_zero, List.set_cons_succ]; rfl)) (hJ22_26 (.slice (some adz_v301) y300.length co61, adz_v301) _ ⟨hHeld, (by (with_reducible repeat (first | apply Kd.R_alloc | apply Kd.R_drewN | apply Kd.R_drew)); exact HO281.out), (by (with_reducible repeat (first | apply Kd.R_alloc | apply Kd.R_drewN | apply Kd.R_drew)); exact HO289.out), (by (with_reducible repeat (first | apply Kd.R_alloc | apply Kd.R_drewN | apply Kd.R_drew)); exact HO302.out), ⟨_, rfl⟩, (by (with_reducible repeat (first | refine blk_drewN ?_ _ | refine blk_drew ?_ | refine blk_alloc ?_ _)); exact BK276.out), (by (with_reducible repeat (first | refine blk_drewN ?_ _ | refine blk_drew ?_ | refine blk_alloc ?_ _)); exact BK282.out), (by (with_reducible repeat (first | refine blk_drewN ?_ _ | refine blk_drew ?_ | refine blk_alloc ?_ _)); exact BK290.out), (by repeat (first | (with_reducible first | exact HB.out | apply below_alloc | apply pw_below_drewN | apply below_drew1 | refine below_set ?_ GE276.out | refine below_set ?_ GE282.out | refine below_set ?_ GE290.out) | exact HB.out))⟩)
                                        · skip
                                          rintro ⟨v296, adz_v296⟩ w60 ⟨hS_, h0_, h1_, h2_, h3_, h4_, h5_, h6_, h7_⟩
                                          have n0_ : Aside0 (Kd.R (Kd.int .i32) 37 w60 w.heap.size (fun k_ => some k_ ≠ (.slice Ao50 t287.length co50 : Value).ownBlock) (.slice Ao37 t279.length co37) t279) := ⟨h0_⟩
                                          have n1_ : Aside0 (Kd.R (Kd.int .i32) 37 w60 w.heap.size (fun k_ => some k_ ≠ (.slice Ao37 t279.length co37 : Value).ownBlock) (.slice Ao50 t287.length co50) t287) := ⟨h1_⟩
                                          have n2_ : Aside0 (Kd.R Kd.string 9 w60 w.heap.size (fun _ => True) v296 y295) := ⟨h2_⟩
                                          have n3_ : Aside0 (∃ c_, (v296 : Value) = .slice (some adz_v296) y295.length c_) := ⟨h3_⟩
                                          have n4_ : Aside0 (w60.heap[gb276]? = some (.cells #[.int .u8 a0_0, .bool a0_1, .bool a0_2, .slice Ao37 t279.length co37] 29 (0, 0))) := ⟨h4_⟩
                                          have n5_ : Aside0 (w60.heap[gb282]? = some (.cells #[.int .u8 (Int.tmod a2 5), .bool a3, .bool a4, .slice Ao37 t279.length co37] 29 (0, 0))) := ⟨h5_⟩
                                          have n6_ : Aside0 (w60.heap[gb290]? = some (.cells #[.int .u8 t284, .bool t285, .bool t286, .slice Ao50 t287.length co50] 29 (0, 0))) := ⟨h6_⟩
                                          have n7_ : Aside0 (Below w.heap.size w w60) := ⟨h7_⟩
                                          clear HO281
                                          clear HO289
                                          clear BK276
                                          clear BK282
                                          clear BK290
                                          clear HB
                                          clear h0_ h1_ h2_ h3_ h4_ h5_ h6_ h7_
                                          have HO281 := n0_
                                          have HO289 := n1_
                                          have HO297 := n2_
                                          have HA_HO297 := n3_
                                          have BK276 := n4_
                                          have BK282 := n5_
                                          have BK290 := n6_
                                          have HB := n7_
                                          clear n0_ n1_ n2_ n3_ n4_ n5_ n6_ n7_
                                          have hHeld : w60.cell? ⟨gb282, 0, none⟩ = some (.int .u8 (Int.tmod a2 5)) ∧ w60.cell? ⟨gb282, 1, none⟩ = some (.bool a3) ∧ w60.cell? ⟨gb282, 2, none⟩ = some (.bool a4) ∧ w60.cell? ⟨gb282, 3, none⟩ = some (.slice Ao37 t279.length co37) := hS_
                                          obtain ⟨co61, eo61⟩ := HA_HO297.out
                                          clear HA_HO297
                                          subst eo61
                                          refine norm_ (a' := ?_) ?_ ?_
                                          rotate_left
                                          · simp only [putAll, Act.put, List.setIfInBounds_toArray, List.set_cons_zero, List.set_cons_succ]
                                            rfl
                                          refine two_ (i := 20) (j := 22) (Ni := some 70) (Nj := some 72) #[true, true, true, true, true, true, true, true, true, true, true, true, true, true, true, true, true, true, true, true, true, false, false, true, true, false, false, false, false, false, false] #[true, true, true, true, true, true, true, true, true, true, true, true, true, true, true, true, true, true, true, true, false, false, true, true, true, false, false, false, false, false, false] rfl rfl rfl rfl (two_of HT_.out (by kernel_rfl)) (by decide) (by decide) (fun K hK => ?_) (fun K hK => ?_)
                                          · skip
                                            (have p298 : 0 ≤ ((ji30) : Int) := of_decide_eq_true (by first | (with_reducible assumption) | assumption); have q298 : (ji30) < (y295.length : Int) := of_decide_eq_true (by first | (with_reducible assumption) | assumption); obtain ⟨ad298, e298, hx298_0⟩ := Kd.at_string (Kd.R_reads' HO297.out).2.2 (ji30) p298 q298; obtain rfl : adz_v296 = ad298 := (by injection e298))
                                            refine value_ (w1 := ?_) (v := ?_) (by rfl) rfl ?_ ?_
                                            rotate_left 2
                                            · go_simp
                                              constructor
                                              · rfl
                                              · rfl
                                            clear hx298_0
                                            refine hK.out _ _ ⟨(blk_cell BK282.out 0).trans rfl, (blk_cell BK282.out 1).trans rfl, (blk_cell BK282.out 2).trans rfl, (blk_cell BK282.out 3).trans rfl⟩ (fun hHeld => ?_)
                                            clear hK K
                                            refine norm_ (a' := ?_) ?_ ?_
                                            rotate_left
                                            · show Act.put _ (some 70) _ = _
                                              simp only [Act.put, List.setIfInBounds_toArray, List.set_cons_zero, List.set_cons_succ, i64_w, i32_w]
                                              rfl
                                            exact norm_ (by first | (simp only [putAll, Act.put, List.setIfInBounds_toArray, List.set_cons_zero, List.set_cons_succ]; done) | (simp only [putAll, Act.put, List.setIfInBounds_toArray, List.set_cons_zero, List.set_cons_succ]; rfl)) (hJ16_20 (.slice (some adz_v296) y295.length co61, adz_v296) _ ⟨hHeld, (by (with_reducible repeat (first | apply Kd.R_alloc | apply Kd.R_drewN | apply Kd.R_drew)); exact HO281.out), (by (with_reducible repeat (first | apply Kd.R_alloc | apply Kd.R_drewN | apply Kd.R_drew)); exact HO289.out), (by (with_reducible repeat (first | apply Kd.R_alloc | apply Kd.R_drewN | apply Kd.R_drew)); exact HO297.out), ⟨_, rfl⟩, (by (with_reducible repeat (first | refine blk_drewN ?_ _ | refine blk_drew ?_ | refine blk_alloc ?_ _)); exact BK276.out), (by (with_reducible repeat (first | refine blk_drewN ?_ _ | refine blk_drew ?_ | refine blk_alloc ?_ _)); exact BK282.out), (by (with_reducible repeat (first | refine blk_drewN ?_ _ | refine blk_drew ?_ | refine blk_alloc ?_ _)); exact BK290.out), (by repeat (first | (with_reducible first | exact HB.out | apply below_alloc | apply pw_below_drewN | apply below_drew1 | refine below_set ?_ GE276.out | refine below_set ?_ GE282.out | refine below_set ?_ GE290.out) | exact HB.out))⟩)
                                          · skip
                                            refine Kd.R_lit_step Kd.string _ 9 ?hg (N := 72) ?hd (xs := ([(⟨#[117, 116, 102, 45, 56]⟩ : ByteArray), (⟨#[117, 116, 102, 45, 49, 54]⟩ : ByteArray), (⟨#[108, 97, 116, 105, 110, 49]⟩ : ByteArray), (⟨#[]⟩ : ByteArray)] : List ByteArray)) (inner := [.string (⟨#[117, 116, 102, 45, 56]⟩ : ByteArray), .string (⟨#[117, 116, 102, 45, 49, 54]⟩ : ByteArray), .string (⟨#[108, 97, 116, 105, 110, 49]⟩ : ByteArray), .string (⟨#[]⟩ : ByteArray)]) (ok := fun _ => True) (okp := fun _ => True) ?hr ?hp (fun _ hk => hk) trivial (Below.refl _ _) (Nat.le_refl _) (by simp) ?_; (case hd => rfl); (case hg => rfl); (case hr => first | (go_simp; done) | (go_simp; rfl)); (case hp => exact (Reps.one (show Kd.M Kd.string _ _ _ (⟨#[117, 116, 102, 45, 56]⟩ : ByteArray) [.string (⟨#[117, 116, 102, 45, 56]⟩ : ByteArray)] from rfl) (Reps.one (show Kd.M Kd.string _ _ _ (⟨#[117, 116, 102, 45, 49, 54]⟩ : ByteArray) [.string (⟨#[117, 116, 102, 45, 49, 54]⟩ : ByteArray)] from rfl) (Reps.one (show Kd.M Kd.string _ _ _ (⟨#[108, 97, 116, 105, 110, 49]⟩ : ByteArray) [.string (⟨#[108, 97, 116, 105, 110, 49]⟩ : ByteArray)] from rfl) (Reps.one (show Kd.M Kd.string _ _ _ (⟨#[]⟩ : ByteArray) [.string (⟨#[]⟩ : ByteArray)] from rfl) (Reps.none _ _))))))
                                            intro v301 w62 ho63 hb hg_ hnew_
                                            clear hg_ hnew_
                                            (first | rw [← Ny300.out] at ho63 | (simp only [Int.reduceToNat] at ho63; rw [← Ny300.out] at ho63))
                                            have n0_ := Aside0.mk (Kd.R_below (by (with_reducible repeat (first | apply Kd.R_alloc | apply Kd.R_drewN | apply Kd.R_drew)); exact HO281.out) hb)
                                            have n1_ := Aside0.mk (Kd.R_below (by (with_reducible repeat (first | apply Kd.R_alloc | apply Kd.R_drewN | apply Kd.R_drew)); exact HO289.out) hb)
                                            have n2_ := Aside0.mk (Kd.R_elder' (by (with_reducible repeat (first | apply Kd.R_alloc | apply Kd.R_drewN | apply Kd.R_drew)); exact HO297.out) (Kd.R_base ho63) hb)
                                            have n3_ := Aside0.mk (Kd.R_lower (Kd.R_new' ho63 (Kd.R_lt (by (with_reducible repeat (first | apply Kd.R_alloc | apply Kd.R_drewN | apply Kd.R_drew)); exact HO297.out))) (below_size (by repeat (first | (with_reducible first | exact HB.out | apply below_alloc | apply pw_below_drewN | apply below_drew1 | refine below_set ?_ GE276.out | refine below_set ?_ GE282.out | refine below_set ?_ GE290.out) | exact HB.out))))
                                            have n4_ := Aside0.mk (blk_below (g := gb276) (o := .cells #[.int .u8 a0_0, .bool a0_1, .bool a0_2, .slice Ao37 t279.length co37] 29 (0, 0)) (by (with_reducible repeat (first | refine blk_drewN ?_ _ | refine blk_drew ?_ | refine blk_alloc ?_ _)); exact BK276.out) hb)
                                            have n5_ := Aside0.mk (blk_below (g := gb282) (o := .cells #[.int .u8 (Int.tmod a2 5), .bool a3, .bool a4, .slice Ao37 t279.length co37] 29 (0, 0)) (by (with_reducible repeat (first | refine blk_drewN ?_ _ | refine blk_drew ?_ | refine blk_alloc ?_ _)); exact BK282.out) hb)
                                            have n6_ := Aside0.mk (blk_below (g := gb290) (o := .cells #[.int .u8 t284, .bool t285, .bool t286, .slice Ao50 t287.length co50] 29 (0, 0)) (by (with_reducible repeat (first | refine blk_drewN ?_ _ | refine blk_drew ?_ | refine blk_alloc ?_ _)); exact BK290.out) hb)
                                            have n7_ := Aside0.mk (below_step (by repeat (first | (with_reducible first | exact HB.out | apply below_alloc | apply pw_below_drewN | apply below_drew1 | refine below_set ?_ GE276.out | refine below_set ?_ GE282.out | refine below_set ?_ GE290.out) | exact HB.out)) hb)
                                            clear HO281
                                            clear HO289
                                            clear HO297
                                            clear BK276
                                            clear BK282
                                            clear BK290
                                            clear HB
                                            have HO281 := n0_
                                            have HO289 := n1_
                                            have HO297 := n2_
                                            have HO302 := n3_
                                            have BK276 := n4_
                                            have BK282 := n5_
                                            have BK290 := n6_
                                            have HB := n7_
                                            clear n0_ n1_ n2_ n3_ n4_ n5_ n6_ n7_
                                            clear hb ho63
                                            obtain ⟨Ao64, co64, eo64⟩ := Kd.R_slice HO302.out
                                            subst eo64
                                            obtain ⟨ado64, fo64, _⟩ := Kd.at_string (Kd.R_reads' HO302.out).2.2 0 (by decide) (by rw [Ny300.out]; simp)
                                            cases fo64
                                            refine hK.out _ _ ⟨(blk_cell BK282.out 0).trans rfl, (blk_cell BK282.out 1).trans rfl, (blk_cell BK282.out 2).trans rfl, (blk_cell BK282.out 3).trans rfl⟩ (fun hHeld => ?_)
                                            clear hK K
                                            refine norm_ (a' := ?_) ?_ ?_
                                            rotate_left
                                            · show Act.put _ (some 72) _ = _
                                              simp only [Act.put, List.setIfInBounds_toArray, List.set_cons_zero, List.set_cons_succ, i64_w, i32_w]
                                              rfl
                                            refine pure_ (i := 25) (N := some 75) (v := ?_) (a' := ?_) #[true, true, true, true, true, true, true, true, true, true, true, true, true, true, true, true, true, true, true, true, false, false, true, true, true, true, false, false, false, false, false] rfl rfl (any_of HT_.out (by kernel_rfl)) (fun _ _ _ h => h) (Or.inl ⟨by rfl, ?_⟩) ?_ ?_
                                            rotate_left
                                            · intro w'
                                              go_simp
                                              with_reducible rfl
                                            rotate_left
                                            · simp only [Act.put, List.setIfInBounds_toArray, List.set_cons_zero, List.set_cons_succ, i64_w, i32_w]
                                              rfl
                                            exact norm_ (by first | (simp only [putAll, Act.put, List.setIfInBounds_toArray, List.set_cons_zero, List.set_cons_succ]; done) | (simp only [putAll, Act.put, List.setIfInBounds_toArray, List.set_cons_zero, List.set_cons_succ]; rfl)) (hJ16_22 (.slice (some adz_v296) y295.length co61, adz_v296, .slice (some ado64) y300.length co64, ado64) _ ⟨hHeld, (by (with_reducible repeat (first | apply Kd.R_alloc | apply Kd.R_drewN | apply Kd.R_drew)); exact HO281.out), (by (with_reducible repeat (first | apply Kd.R_alloc | apply Kd.R_drewN | apply Kd.R_drew)); exact HO289.out), (by (with_reducible repeat (first | apply Kd.R_alloc | apply Kd.R_drewN | apply Kd.R_drew)); exact Kd.R_mono HO297.out (fun _ hk => hk.2)), (by (with_reducible repeat (first | apply Kd.R_alloc | apply Kd.R_drewN | apply Kd.R_drew)); exact Kd.R_mono HO302.out (fun _ hk => hk.2)), ⟨_, rfl⟩, ⟨_, rfl⟩, (by (with_reducible repeat (first | refine blk_drewN ?_ _ | refine blk_drew ?_ | refine blk_alloc ?_ _)); exact BK276.out), (by (with_reducible repeat (first | refine blk_drewN ?_ _ | refine blk_drew ?_ | refine blk_alloc ?_ _)); exact BK282.out), (by (with_reducible repeat (first | refine blk_drewN ?_ _ | refine blk_drew ?_ | refine blk_alloc ?_ _)); exact BK290.out), (by repeat (first | (with_reducible first | exact HB.out | apply below_alloc | apply pw_below_drewN | apply below_drew1 | refine below_set ?_ GE276.out | refine below_set ?_ GE282.out | refine below_set ?_ GE290.out) | exact HB.out))⟩)
                                      · skip
                                        rintro ⟨v301, adz_v301⟩ w60 ⟨hS_, h0_, h1_, h2_, h3_, h4_, h5_, h6_, h7_⟩
                                        have n0_ : Aside0 (Kd.R (Kd.int .i32) 37 w60 w.heap.size (fun k_ => some k_ ≠ (.slice Ao50 t287.length co50 : Value).ownBlock) (.slice Ao37 t279.length co37) t279) := ⟨h0_⟩
                                        have n1_ : Aside0 (Kd.R (Kd.int .i32) 37 w60 w.heap.size (fun k_ => some k_ ≠ (.slice Ao37 t279.length co37 : Value).ownBlock) (.slice Ao50 t287.length co50) t287) := ⟨h1_⟩
                                        have n2_ : Aside0 (Kd.R Kd.string 9 w60 w.heap.size (fun _ => True) v301 y300) := ⟨h2_⟩
                                        have n3_ : Aside0 (∃ c_, (v301 : Value) = .slice (some adz_v301) y300.length c_) := ⟨h3_⟩
                                        have n4_ : Aside0 (w60.heap[gb276]? = some (.cells #[.int .u8 a0_0, .bool a0_1, .bool a0_2, .slice Ao37 t279.length co37] 29 (0, 0))) := ⟨h4_⟩
                                        have n5_ : Aside0 (w60.heap[gb282]? = some (.cells #[.int .u8 (Int.tmod a2 5), .bool a3, .bool a4, .slice Ao37 t279.length co37] 29 (0, 0))) := ⟨h5_⟩
                                        have n6_ : Aside0 (w60.heap[gb290]? = some (.cells #[.int .u8 t284, .bool t285, .bool t286, .slice Ao50 t287.length co50] 29 (0, 0))) := ⟨h6_⟩
                                        have n7_ : Aside0 (Below w.heap.size w w60) := ⟨h7_⟩
                                        clear HO281
                                        clear HO289
                                        clear BK276
                                        clear BK282
                                        clear BK290
                                        clear HB
                                        clear h0_ h1_ h2_ h3_ h4_ h5_ h6_ h7_
                                        have HO281 := n0_
                                        have HO289 := n1_
                                        have HO302 := n2_
                                        have HA_HO302 := n3_
                                        have BK276 := n4_
                                        have BK282 := n5_
                                        have BK290 := n6_
                                        have HB := n7_
                                        clear n0_ n1_ n2_ n3_ n4_ n5_ n6_ n7_
                                        have hHeld : w60.cell? ⟨gb282, 0, none⟩ = some (.int .u8 (Int.tmod a2 5)) ∧ w60.cell? ⟨gb282, 1, none⟩ = some (.bool a3) ∧ w60.cell? ⟨gb282, 2, none⟩ = some (.bool a4) ∧ w60.cell? ⟨gb282, 3, none⟩ = some (.slice Ao37 t279.length co37) := hS_
                                        obtain ⟨co61, eo61⟩ := HA_HO302.out
                                        clear HA_HO302
                                        subst eo61
                                        refine norm_ (a' := ?_) ?_ ?_
                                        rotate_left
                                        · simp only [putAll, Act.put, List.setIfInBounds_toArray, List.set_cons_zero, List.set_cons_succ]
                                          rfl
                                        refine one_ (i := 16) (N := some 66) #[true, true, true, true, true, true, true, true, true, true, true, true, true, true, true, true, true, true, true, false, false, false, true, true, true, true, true, false, false, false, false] rfl rfl (one_of HT_.out (by kernel_rfl)) (by decide) (fun K hK => ?_)
                                        refine Kd.R_lit_step Kd.string _ 9 ?hg (N := 66) ?hd (xs := ([(⟨#[117, 116, 102, 45, 56]⟩ : ByteArray), (⟨#[117, 116, 102, 45, 49, 54]⟩ : ByteArray), (⟨#[108, 97, 116, 105, 110, 49]⟩ : ByteArray), (⟨#[]⟩ : ByteArray)] : List ByteArray)) (inner := [.string (⟨#[117, 116, 102, 45, 56]⟩ : ByteArray), .string (⟨#[117, 116, 102, 45, 49, 54]⟩ : ByteArray), .string (⟨#[108, 97, 116, 105, 110, 49]⟩ : ByteArray), .string (⟨#[]⟩ : ByteArray)]) (ok := fun _ => True) (okp := fun _ => True) ?hr ?hp (fun _ hk => hk) trivial (Below.refl _ _) (Nat.le_refl _) (by simp) ?_; (case hd => rfl); (case hg => rfl); (case hr => first | (go_simp; done) | (go_simp; rfl)); (case hp => exact (Reps.one (show Kd.M Kd.string _ _ _ (⟨#[117, 116, 102, 45, 56]⟩ : ByteArray) [.string (⟨#[117, 116, 102, 45, 56]⟩ : ByteArray)] from rfl) (Reps.one (show Kd.M Kd.string _ _ _ (⟨#[117, 116, 102, 45, 49, 54]⟩ : ByteArray) [.string (⟨#[117, 116, 102, 45, 49, 54]⟩ : ByteArray)] from rfl) (Reps.one (show Kd.M Kd.string _ _ _ (⟨#[108, 97, 116, 105, 110, 49]⟩ : ByteArray) [.string (⟨#[108, 97, 116, 105, 110, 49]⟩ : ByteArray)] from rfl) (Reps.one (show Kd.M Kd.string _ _ _ (⟨#[]⟩ : ByteArray) [.string (⟨#[]⟩ : ByteArray)] from rfl) (Reps.none _ _))))))
                                        intro v296 w62 ho63 hb hg_ hnew_
                                        clear hg_ hnew_
                                        (first | rw [← Ny295.out] at ho63 | (simp only [Int.reduceToNat] at ho63; rw [← Ny295.out] at ho63))
                                        have n0_ := Aside0.mk (Kd.R_below (by (with_reducible repeat (first | apply Kd.R_alloc | apply Kd.R_drewN | apply Kd.R_drew)); exact HO281.out) hb)
                                        have n1_ := Aside0.mk (Kd.R_below (by (with_reducible repeat (first | apply Kd.R_alloc | apply Kd.R_drewN | apply Kd.R_drew)); exact HO289.out) hb)
                                        have n2_ := Aside0.mk (Kd.R_elder' (by (with_reducible repeat (first | apply Kd.R_alloc | apply Kd.R_drewN | apply Kd.R_drew)); exact HO302.out) (Kd.R_base ho63) hb)
                                        have n3_ := Aside0.mk (Kd.R_lower (Kd.R_new' ho63 (Kd.R_lt (by (with_reducible repeat (first | apply Kd.R_alloc | apply Kd.R_drewN | apply Kd.R_drew)); exact HO302.out))) (below_size (by repeat (first | (with_reducible first | exact HB.out | apply below_alloc | apply pw_below_drewN | apply below_drew1 | refine below_set ?_ GE276.out | refine below_set ?_ GE282.out | refine below_set ?_ GE290.out) | exact HB.out))))
                                        have n4_ := Aside0.mk (blk_below (g := gb276) (o := .cells #[.int .u8 a0_0, .bool a0_1, .bool a0_2, .slice Ao37 t279.length co37] 29 (0, 0)) (by (with_reducible repeat (first | refine blk_drewN ?_ _ | refine blk_drew ?_ | refine blk_alloc ?_ _)); exact BK276.out) hb)
                                        have n5_ := Aside0.mk (blk_below (g := gb282) (o := .cells #[.int .u8 (Int.tmod a2 5), .bool a3, .bool a4, .slice Ao37 t279.length co37] 29 (0, 0)) (by (with_reducible repeat (first | refine blk_drewN ?_ _ | refine blk_drew ?_ | refine blk_alloc ?_ _)); exact BK282.out) hb)
                                        have n6_ := Aside0.mk (blk_below (g := gb290) (o := .cells #[.int .u8 t284, .bool t285, .bool t286, .slice Ao50 t287.length co50] 29 (0, 0)) (by (with_reducible repeat (first | refine blk_drewN ?_ _ | refine blk_drew ?_ | refine blk_alloc ?_ _)); exact BK290.out) hb)
                                        have n7_ := Aside0.mk (below_step (by repeat (first | (with_reducible first | exact HB.out | apply below_alloc | apply pw_below_drewN | apply below_drew1 | refine below_set ?_ GE276.out | refine below_set ?_ GE282.out | refine below_set ?_ GE290.out) | exact HB.out)) hb)
                                        clear HO281
                                        clear HO289
                                        clear HO302
                                        clear BK276
                                        clear BK282
                                        clear BK290
                                        clear HB
                                        have HO281 := n0_
                                        have HO289 := n1_
                                        have HO302 := n2_
                                        have HO297 := n3_
                                        have BK276 := n4_
                                        have BK282 := n5_
                                        have BK290 := n6_
                                        have HB := n7_
                                        clear n0_ n1_ n2_ n3_ n4_ n5_ n6_ n7_
                                        clear hb ho63
                                        obtain ⟨Ao64, co64, eo64⟩ := Kd.R_slice HO297.out
                                        subst eo64
                                        obtain ⟨ado64, fo64, _⟩ := Kd.at_string (Kd.R_reads' HO297.out).2.2 0 (by decide) (by rw [Ny295.out]; simp)
                                        cases fo64
                                        refine hK.out _ _ ⟨(blk_cell BK282.out 0).trans rfl, (blk_cell BK282.out 1).trans rfl, (blk_cell BK282.out 2).trans rfl, (blk_cell BK282.out 3).trans rfl⟩ (fun hHeld => ?_)
                                        clear hK K
                                        refine norm_ (a' := ?_) ?_ ?_
                                        rotate_left
                                        · show Act.put _ (some 66) _ = _
                                          simp only [Act.put, List.setIfInBounds_toArray, List.set_cons_zero, List.set_cons_succ, i64_w, i32_w]
                                          rfl
                                        refine pure_ (i := 19) (N := some 69) (v := ?_) (a' := ?_) #[true, true, true, true, true, true, true, true, true, true, true, true, true, true, true, true, true, true, true, true, false, false, true, true, true, true, true, false, false, false, false] rfl rfl (any_of HT_.out (by kernel_rfl)) (fun _ _ _ h => h) (Or.inl ⟨by rfl, ?_⟩) ?_ ?_
                                        rotate_left
                                        · intro w'
                                          go_simp
                                          with_reducible rfl
                                        rotate_left
                                        · simp only [Act.put, List.setIfInBounds_toArray, List.set_cons_zero, List.set_cons_succ, i64_w, i32_w]
                                          rfl
                                        exact norm_ (by first | (simp only [putAll, Act.put, List.setIfInBounds_toArray, List.set_cons_zero, List.set_cons_succ]; done) | (simp only [putAll, Act.put, List.setIfInBounds_toArray, List.set_cons_zero, List.set_cons_succ]; rfl)) (hJ16_22_26 (.slice (some ado64) y295.length co64, ado64, .slice (some adz_v301) y300.length co61, adz_v301) _ ⟨hHeld, (by (with_reducible repeat (first | apply Kd.R_alloc | apply Kd.R_drewN | apply Kd.R_drew)); exact HO281.out), (by (with_reducible repeat (first | apply Kd.R_alloc | apply Kd.R_drewN | apply Kd.R_drew)); exact HO289.out), (by (with_reducible repeat (first | apply Kd.R_alloc | apply Kd.R_drewN | apply Kd.R_drew)); exact Kd.R_mono HO297.out (fun _ hk => hk.2)), (by (with_reducible repeat (first | apply Kd.R_alloc | apply Kd.R_drewN | apply Kd.R_drew)); exact Kd.R_mono HO302.out (fun _ hk => hk.2)), ⟨_, rfl⟩, ⟨_, rfl⟩, (by (with_reducible repeat (first | refine blk_drewN ?_ _ | refine blk_drew ?_ | refine blk_alloc ?_ _)); exact BK276.out), (by (with_reducible repeat (first | refine blk_drewN ?_ _ | refine blk_drew ?_ | refine blk_alloc ?_ _)); exact BK282.out), (by (with_reducible repeat (first | refine blk_drewN ?_ _ | refine blk_drew ?_ | refine blk_alloc ?_ _)); exact BK290.out), (by repeat (first | (with_reducible first | exact HB.out | apply below_alloc | apply pw_below_drewN | apply below_drew1 | refine below_set ?_ GE276.out | refine below_set ?_ GE282.out | refine below_set ?_ GE290.out) | exact HB.out))⟩)
                                    · skip
                                      rintro ⟨v296, adz_v296, v301, adz_v301⟩ w63 ⟨hS_, h0_, h1_, h2_, h3_, h4_, h5_, h6_, h7_, h8_, h9_⟩
                                      have n0_ : Aside0 (Kd.R (Kd.int .i32) 37 w63 w.heap.size (fun k_ => some k_ ≠ (.slice Ao50 t287.length co50 : Value).ownBlock) (.slice Ao37 t279.length co37) t279) := ⟨h0_⟩
                                      have n1_ : Aside0 (Kd.R (Kd.int .i32) 37 w63 w.heap.size (fun k_ => some k_ ≠ (.slice Ao37 t279.length co37 : Value).ownBlock) (.slice Ao50 t287.length co50) t287) := ⟨h1_⟩
                                      have n2_ : Aside0 (Kd.R Kd.string 9 w63 w.heap.size (fun k_ => some k_ ≠ (v301 : Value).ownBlock) v296 y295) := ⟨h2_⟩
                                      have n3_ : Aside0 (Kd.R Kd.string 9 w63 w.heap.size (fun k_ => some k_ ≠ (v296 : Value).ownBlock) v301 y300) := ⟨h3_⟩
                                      have n4_ : Aside0 (∃ c_, (v296 : Value) = .slice (some adz_v296) y295.length c_) := ⟨h4_⟩
                                      have n5_ : Aside0 (∃ c_, (v301 : Value) = .slice (some adz_v301) y300.length c_) := ⟨h5_⟩
                                      have n6_ : Aside0 (w63.heap[gb276]? = some (.cells #[.int .u8 a0_0, .bool a0_1, .bool a0_2, .slice Ao37 t279.length co37] 29 (0, 0))) := ⟨h6_⟩
                                      have n7_ : Aside0 (w63.heap[gb282]? = some (.cells #[.int .u8 (Int.tmod a2 5), .bool a3, .bool a4, .slice Ao37 t279.length co37] 29 (0, 0))) := ⟨h7_⟩
                                      have n8_ : Aside0 (w63.heap[gb290]? = some (.cells #[.int .u8 t284, .bool t285, .bool t286, .slice Ao50 t287.length co50] 29 (0, 0))) := ⟨h8_⟩
                                      have n9_ : Aside0 (Below w.heap.size w w63) := ⟨h9_⟩
                                      clear HO281
                                      clear HO289
                                      clear BK276
                                      clear BK282
                                      clear BK290
                                      clear HB
                                      clear h0_ h1_ h2_ h3_ h4_ h5_ h6_ h7_ h8_ h9_
                                      have HO281 := n0_
                                      have HO289 := n1_
                                      have HO297 := n2_
                                      have HO302 := n3_
                                      have HA_HO297 := n4_
                                      have HA_HO302 := n5_
                                      have BK276 := n6_
                                      have BK282 := n7_
                                      have BK290 := n8_
                                      have HB := n9_
                                      clear n0_ n1_ n2_ n3_ n4_ n5_ n6_ n7_ n8_ n9_
                                      have hHeld : w63.cell? ⟨gb282, 0, none⟩ = some (.int .u8 (Int.tmod a2 5)) ∧ w63.cell? ⟨gb282, 1, none⟩ = some (.bool a3) ∧ w63.cell? ⟨gb282, 2, none⟩ = some (.bool a4) ∧ w63.cell? ⟨gb282, 3, none⟩ = some (.slice Ao37 t279.length co37) := hS_
                                      obtain ⟨co64, eo64⟩ := HA_HO297.out
                                      clear HA_HO297
                                      subst eo64
                                      obtain ⟨co65, eo65⟩ := HA_HO302.out
                                      clear HA_HO302
                                      subst eo65
                                      refine norm_ (a' := ?_) ?_ ?_
                                      rotate_left
                                      · simp only [putAll, Act.put, List.setIfInBounds_toArray, List.set_cons_zero, List.set_cons_succ]
                                        rfl
                                      refine two_ (i := 20) (j := 26) (Ni := some 70) (Nj := some 76) #[true, true, true, true, true, true, true, true, true, true, true, true, true, true, true, true, true, true, true, true, true, false, true, true, true, true, false, false, false, false, false] #[true, true, true, true, true, true, true, true, true, true, true, true, true, true, true, true, true, true, true, true, false, false, true, true, true, true, true, false, false, false, false] rfl rfl rfl rfl (two_of HT_.out (by kernel_rfl)) (by decide) (by decide) (fun K hK => ?_) (fun K hK => ?_)
                                      · skip
                                        (have p298 : 0 ≤ ((ji30) : Int) := of_decide_eq_true (by first | (with_reducible assumption) | assumption); have q298 : (ji30) < (y295.length : Int) := of_decide_eq_true (by first | (with_reducible assumption) | assumption); obtain ⟨ad298, e298, hx298_0⟩ := Kd.at_string (Kd.R_reads' HO297.out).2.2 (ji30) p298 q298; obtain rfl : adz_v296 = ad298 := (by injection e298))
                                        refine value_ (w1 := ?_) (v := ?_) (by rfl) rfl ?_ ?_
                                        rotate_left 2
                                        · go_simp
                                          constructor
                                          · rfl
                                          · rfl
                                        clear hx298_0
                                        refine hK.out _ _ ⟨(blk_cell BK282.out 0).trans rfl, (blk_cell BK282.out 1).trans rfl, (blk_cell BK282.out 2).trans rfl, (blk_cell BK282.out 3).trans rfl⟩ (fun hHeld => ?_)
                                        clear hK K
                                        refine norm_ (a' := ?_) ?_ ?_
                                        rotate_left
                                        · show Act.put _ (some 70) _ = _
                                          simp only [Act.put, List.setIfInBounds_toArray, List.set_cons_zero, List.set_cons_succ, i64_w, i32_w]
                                          rfl
                                        exact norm_ (by first | (simp only [putAll, Act.put, List.setIfInBounds_toArray, List.set_cons_zero, List.set_cons_succ]; done) | (simp only [putAll, Act.put, List.setIfInBounds_toArray, List.set_cons_zero, List.set_cons_succ]; rfl)) (hJ16_20_22 (.slice (some adz_v296) y295.length co64, adz_v296, .slice (some adz_v301) y300.length co65, adz_v301) _ ⟨hHeld, (by (with_reducible repeat (first | apply Kd.R_alloc | apply Kd.R_drewN | apply Kd.R_drew)); exact HO281.out), (by (with_reducible repeat (first | apply Kd.R_alloc | apply Kd.R_drewN | apply Kd.R_drew)); exact HO289.out), (by (with_reducible repeat (first | apply Kd.R_alloc | apply Kd.R_drewN | apply Kd.R_drew)); exact HO297.out), (by (with_reducible repeat (first | apply Kd.R_alloc | apply Kd.R_drewN | apply Kd.R_drew)); exact HO302.out), ⟨_, rfl⟩, ⟨_, rfl⟩, (by (with_reducible repeat (first | refine blk_drewN ?_ _ | refine blk_drew ?_ | refine blk_alloc ?_ _)); exact BK276.out), (by (with_reducible repeat (first | refine blk_drewN ?_ _ | refine blk_drew ?_ | refine blk_alloc ?_ _)); exact BK282.out), (by (with_reducible repeat (first | refine blk_drewN ?_ _ | refine blk_drew ?_ | refine blk_alloc ?_ _)); exact BK290.out), (by repeat (first | (with_reducible first | exact HB.out | apply below_alloc | apply pw_below_drewN | apply below_drew1 | refine below_set ?_ GE276.out | refine below_set ?_ GE282.out | refine below_set ?_ GE290.out) | exact HB.out))⟩)
                                      · skip
                                        (have p303 : 0 ≤ ((ji30) : Int) := of_decide_eq_true (by first | (with_reducible assumption) | assumption); have q303 : (ji30) < (y300.length : Int) := of_decide_eq_true (by first | (with_reducible assumption) | assumption); obtain ⟨ad303, e303, hx303_0⟩ := Kd.at_string (Kd.R_reads' HO302.out).2.2 (ji30) p303 q303; obtain rfl : adz_v301 = ad303 := (by injection e303))
                                        refine value_ (w1 := ?_) (v := ?_) (by rfl) rfl ?_ ?_
                                        rotate_left 2
                                        · go_simp
                                          constructor
                                          · rfl
                                          · rfl
                                        clear hx303_0
                                        refine hK.out _ _ ⟨(blk_cell BK282.out 0).trans rfl, (blk_cell BK282.out 1).trans rfl, (blk_cell BK282.out 2).trans rfl, (blk_cell BK282.out 3).trans rfl⟩ (fun hHeld => ?_)
                                        clear hK K
                                        refine norm_ (a' := ?_) ?_ ?_
                                        rotate_left
                                        · show Act.put _ (some 76) _ = _
                                          simp only [Act.put, List.setIfInBounds_toArray, List.set_cons_zero, List.set_cons_succ, i64_w, i32_w]
                                          rfl
                                        exact norm_ (by first | (simp only [putAll, Act.put, List.setIfInBounds_toArray, List.set_cons_zero, List.set_cons_succ]; done) | (simp only [putAll, Act.put, List.setIfInBounds_toArray, List.set_cons_zero, List.set_cons_succ]; rfl)) (hJ16_22_26 (.slice (some adz_v296) y295.length co64, adz_v296, .slice (some adz_v301) y300.length co65, adz_v301) _ ⟨hHeld, (by (with_reducible repeat (first | apply Kd.R_alloc | apply Kd.R_drewN | apply Kd.R_drew)); exact HO281.out), (by (with_reducible repeat (first | apply Kd.R_alloc | apply Kd.R_drewN | apply Kd.R_drew)); exact HO289.out), (by (with_reducible repeat (first | apply Kd.R_alloc | apply Kd.R_drewN | apply Kd.R_drew)); exact HO297.out), (by (with_reducible repeat (first | apply Kd.R_alloc | apply Kd.R_drewN | apply Kd.R_drew)); exact HO302.out), ⟨_, rfl⟩, ⟨_, rfl⟩, (by (with_reducible repeat (first | refine blk_drewN ?_ _ | refine blk_drew ?_ | refine blk_alloc ?_ _)); exact BK276.out), (by (with_reducible repeat (first | refine blk_drewN ?_ _ | refine blk_drew ?_ | refine blk_alloc ?_ _)); exact BK282.out), (by (with_reducible repeat (first | refine blk_drewN ?_ _ | refine blk_drew ?_ | refine blk_alloc ?_ _)); exact BK290.out), (by repeat (first | (with_reducible first | exact HB.out | apply below_alloc | apply pw_below_drewN | apply below_drew1 | refine below_set ?_ GE276.out | refine below_set ?_ GE282.out | refine below_set ?_ GE290.out) | exact HB.out))⟩)
                                  · skip
                                    rintro ⟨v296, adz_v296⟩ w60 ⟨hS_, h0_, h1_, h2_, h3_, h4_, h5_, h6_, h7_⟩
                                    have n0_ : Aside0 (Kd.R (Kd.int .i32) 37 w60 w.heap.size (fun k_ => some k_ ≠ (.slice Ao50 t287.length co50 : Value).ownBlock) (.slice Ao37 t279.length co37) t279) := ⟨h0_⟩
                                    have n1_ : Aside0 (Kd.R (Kd.int .i32) 37 w60 w.heap.size (fun k_ => some k_ ≠ (.slice Ao37 t279.length co37 : Value).ownBlock) (.slice Ao50 t287.length co50) t287) := ⟨h1_⟩
                                    have n2_ : Aside0 (Kd.R Kd.string 9 w60 w.heap.size (fun _ => True) v296 y295) := ⟨h2_⟩
                                    have n3_ : Aside0 (∃ c_, (v296 : Value) = .slice (some adz_v296) y295.length c_) := ⟨h3_⟩
                                    have n4_ : Aside0 (w60.heap[gb276]? = some (.cells #[.int .u8 a0_0, .bool a0_1, .bool a0_2, .slice Ao37 t279.length co37] 29 (0, 0))) := ⟨h4_⟩
                                    have n5_ : Aside0 (w60.heap[gb282]? = some (.cells #[.int .u8 (Int.tmod a2 5), .bool a3, .bool a4, .slice Ao37 t279.length co37] 29 (0, 0))) := ⟨h5_⟩
                                    have n6_ : Aside0 (w60.heap[gb290]? = some (.cells #[.int .u8 t284, .bool t285, .bool t286, .slice Ao50 t287.length co50] 29 (0, 0))) := ⟨h6_⟩
                                    have n7_ : Aside0 (Below w.heap.size w w60) := ⟨h7_⟩
                                    clear HO281
                                    clear HO289
                                    clear BK276
                                    clear BK282
                                    clear BK290
                                    clear HB
                                    clear h0_ h1_ h2_ h3_ h4_ h5_ h6_ h7_
                                    have HO281 := n0_
                                    have HO289 := n1_
                                    have HO297 := n2_
                                    have HA_HO297 := n3_
                                    have BK276 := n4_
                                    have BK282 := n5_
                                    have BK290 := n6_
                                    have HB := n7_
                                    clear n0_ n1_ n2_ n3_ n4_ n5_ n6_ n7_
                                    have hHeld : w60.cell? ⟨gb282, 0, none⟩ = some (.int .u8 (Int.tmod a2 5)) ∧ w60.cell? ⟨gb282, 1, none⟩ = some (.bool a3) ∧ w60.cell? ⟨gb282, 2, none⟩ = some (.bool a4) ∧ w60.cell? ⟨gb282, 3, none⟩ = some (.slice Ao37 t279.length co37) := hS_
                                    obtain ⟨co61, eo61⟩ := HA_HO297.out
                                    clear HA_HO297
                                    subst eo61
                                    refine norm_ (a' := ?_) ?_ ?_
                                    rotate_left
                                    · simp only [putAll, Act.put, List.setIfInBounds_toArray, List.set_cons_zero, List.set_cons_succ]
                                      rfl
                                    refine two_ (i := 21) (j := 22) (Ni := some 71) (Nj := some 72) #[true, true, true, true, true, true, true, true, true, true, true, true, true, true, true, true, true, true, true, true, true, true, false, true, true, false, false, false, false, false, false] #[true, true, true, true, true, true, true, true, true, true, true, true, true, true, true, true, true, true, true, true, true, false, true, true, true, false, false, false, false, false, false] rfl rfl rfl rfl (two_of HT_.out (by kernel_rfl)) (by decide) (by decide) (fun K hK => ?_) (fun K hK => ?_)
                                    · skip
                                      refine goes_ Tryd.func20 (by kernel_rfl) rfl #[.string (rdOf ByteArray.empty y295 (ji30))] (by rfl) rfl rfl (by (try simp only [List.map_toArray, List.map_cons, List.map_nil]); first | done | (simp only [hji30]; rfl) | rfl | (simp only [List.length_drop, List.length_take]; rfl)) ?_
                                      with_reducible refine (codec_Named.calls (rdOf ByteArray.empty y295 (ji30)) t299 _ A33.out).mono ?_
                                      rintro e w62 ⟨rfl, hb⟩
                                      refine ⟨_, rfl, ?_⟩
                                      have n0_ := Aside0.mk (Kd.R_below (by (with_reducible repeat (first | apply Kd.R_alloc | apply Kd.R_drewN | apply Kd.R_drew)); exact HO281.out) hb)
                                      have n1_ := Aside0.mk (Kd.R_below (by (with_reducible repeat (first | apply Kd.R_alloc | apply Kd.R_drewN | apply Kd.R_drew)); exact HO289.out) hb)
                                      have n2_ := Aside0.mk (Kd.R_below (by (with_reducible repeat (first | apply Kd.R_alloc | apply Kd.R_drewN | apply Kd.R_drew)); exact HO297.out) hb)
                                      have n3_ := Aside0.mk (blk_below (g := gb276) (o := .cells #[.int .u8 a0_0, .bool a0_1, .bool a0_2, .slice Ao37 t279.length co37] 29 (0, 0)) (by (with_reducible repeat (first | refine blk_drewN ?_ _ | refine blk_drew ?_ | refine blk_alloc ?_ _)); exact BK276.out) hb)
                                      have n4_ := Aside0.mk (blk_below (g := gb282) (o := .cells #[.int .u8 (Int.tmod a2 5), .bool a3, .bool a4, .slice Ao37 t279.length co37] 29 (0, 0)) (by (with_reducible repeat (first | refine blk_drewN ?_ _ | refine blk_drew ?_ | refine blk_alloc ?_ _)); exact BK282.out) hb)
                                      have n5_ := Aside0.mk (blk_below (g := gb290) (o := .cells #[.int .u8 t284, .bool t285, .bool t286, .slice Ao50 t287.length co50] 29 (0, 0)) (by (with_reducible repeat (first | refine blk_drewN ?_ _ | refine blk_drew ?_ | refine blk_alloc ?_ _)); exact BK290.out) hb)
                                      have n6_ := Aside0.mk (below_step (by repeat (first | (with_reducible first | exact HB.out | apply below_alloc | apply pw_below_drewN | apply below_drew1 | refine below_set ?_ GE276.out | refine below_set ?_ GE282.out | refine below_set ?_ GE290.out) | exact HB.out)) hb)
                                      clear HO281
                                      clear HO289
                                      clear HO297
                                      clear BK276
                                      clear BK282
                                      clear BK290
                                      clear HB
                                      have HO281 := n0_
                                      have HO289 := n1_
                                      have HO297 := n2_
                                      have BK276 := n3_
                                      have BK282 := n4_
                                      have BK290 := n5_
                                      have HB := n6_
                                      clear n0_ n1_ n2_ n3_ n4_ n5_ n6_
                                      (try clear hb)
                                      (try clear hb2)
                                      (try clear hk)
                                      (try clear hi)
                                      refine hK.out _ _ ⟨(blk_cell BK282.out 0).trans rfl, (blk_cell BK282.out 1).trans rfl, (blk_cell BK282.out 2).trans rfl, (blk_cell BK282.out 3).trans rfl⟩ (fun hHeld => ?_)
                                      clear hK K
                                      refine norm_ (a' := ?_) ?_ ?_
                                      rotate_left
                                      · show Act.put _ (some 71) _ = _
                                        simp only [Act.put, List.setIfInBounds_toArray, List.set_cons_zero, List.set_cons_succ, i64_w, i32_w]
                                        rfl
                                      exact norm_ (by first | (simp only [putAll, Act.put, List.setIfInBounds_toArray, List.set_cons_zero, List.set_cons_succ]; done) | (simp only [putAll, Act.put, List.setIfInBounds_toArray, List.set_cons_zero, List.set_cons_succ]; rfl)) (hJ16_20_21 (.slice (some adz_v296) y295.length co61, adz_v296) _ ⟨hHeld, (by (with_reducible repeat (first | apply Kd.R_alloc | apply Kd.R_drewN | apply Kd.R_drew)); exact HO281.out), (by (with_reducible repeat (first | apply Kd.R_alloc | apply Kd.R_drewN | apply Kd.R_drew)); exact HO289.out), (by (with_reducible repeat (first | apply Kd.R_alloc | apply Kd.R_drewN | apply Kd.R_drew)); exact HO297.out), ⟨_, rfl⟩, (by (with_reducible repeat (first | refine blk_drewN ?_ _ | refine blk_drew ?_ | refine blk_alloc ?_ _)); exact BK276.out), (by (with_reducible repeat (first | refine blk_drewN ?_ _ | refine blk_drew ?_ | refine blk_alloc ?_ _)); exact BK282.out), (by (with_reducible repeat (first | refine blk_drewN ?_ _ | refine blk_drew ?_ | refine blk_alloc ?_ _)); exact BK290.out), (by repeat (first | (with_reducible first | exact HB.out | apply below_alloc | apply pw_below_drewN | apply below_drew1 | refine below_set ?_ GE276.out | refine below_set ?_ GE282.out | refine below_set ?_ GE290.out) | exact HB.out))⟩)
                                    · skip
                                      refine Kd.R_lit_step Kd.string _ 9 ?hg (N := 72) ?hd (xs := ([(⟨#[117, 116, 102, 45, 56]⟩ : ByteArray), (⟨#[117, 116, 102, 45, 49, 54]⟩ : ByteArray), (⟨#[108, 97, 116, 105, 110, 49]⟩ : ByteArray), (⟨#[]⟩ : ByteArray)] : List ByteArray)) (inner := [.string (⟨#[117, 116, 102, 45, 56]⟩ : ByteArray), .string (⟨#[117, 116, 102, 45, 49, 54]⟩ : ByteArray), .string (⟨#[108, 97, 116, 105, 110, 49]⟩ : ByteArray), .string (⟨#[]⟩ : ByteArray)]) (ok := fun _ => True) (okp := fun _ => True) ?hr ?hp (fun _ hk => hk) trivial (Below.refl _ _) (Nat.le_refl _) (by simp) ?_; (case hd => rfl); (case hg => rfl); (case hr => first | (go_simp; done) | (go_simp; rfl)); (case hp => exact (Reps.one (show Kd.M Kd.string _ _ _ (⟨#[117, 116, 102, 45, 56]⟩ : ByteArray) [.string (⟨#[117, 116, 102, 45, 56]⟩ : ByteArray)] from rfl) (Reps.one (show Kd.M Kd.string _ _ _ (⟨#[117, 116, 102, 45, 49, 54]⟩ : ByteArray) [.string (⟨#[117, 116, 102, 45, 49, 54]⟩ : ByteArray)] from rfl) (Reps.one (show Kd.M Kd.string _ _ _ (⟨#[108, 97, 116, 105, 110, 49]⟩ : ByteArray) [.string (⟨#[108, 97, 116, 105, 110, 49]⟩ : ByteArray)] from rfl) (Reps.one (show Kd.M Kd.string _ _ _ (⟨#[]⟩ : ByteArray) [.string (⟨#[]⟩ : ByteArray)] from rfl) (Reps.none _ _))))))
                                      intro v301 w62 ho63 hb hg_ hnew_
                                      clear hg_ hnew_
                                      (first | rw [← Ny300.out] at ho63 | (simp only [Int.reduceToNat] at ho63; rw [← Ny300.out] at ho63))
                                      have n0_ := Aside0.mk (Kd.R_below (by (with_reducible repeat (first | apply Kd.R_alloc | apply Kd.R_drewN | apply Kd.R_drew)); exact HO281.out) hb)
                                      have n1_ := Aside0.mk (Kd.R_below (by (with_reducible repeat (first | apply Kd.R_alloc | apply Kd.R_drewN | apply Kd.R_drew)); exact HO289.out) hb)
                                      have n2_ := Aside0.mk (Kd.R_elder' (by (with_reducible repeat (first | apply Kd.R_alloc | apply Kd.R_drewN | apply Kd.R_drew)); exact HO297.out) (Kd.R_base ho63) hb)
                                      have n3_ := Aside0.mk (Kd.R_lower (Kd.R_new' ho63 (Kd.R_lt (by (with_reducible repeat (first | apply Kd.R_alloc | apply Kd.R_drewN | apply Kd.R_drew)); exact HO297.out))) (below_size (by repeat (first | (with_reducible first | exact HB.out | apply below_alloc | apply pw_below_drewN | apply below_drew1 | refine below_set ?_ GE276.out | refine below_set ?_ GE282.out | refine below_set ?_ GE290.out) | exact HB.out))))
                                      have n4_ := Aside0.mk (blk_below (g := gb276) (o := .cells #[.int .u8 a0_0, .bool a0_1, .bool a0_2, .slice Ao37 t279.length co37] 29 (0, 0)) (by (with_reducible repeat (first | refine blk_drewN ?_ _ | refine blk_drew ?_ | refine blk_alloc ?_ _)); exact BK276.out) hb)
                                      have n5_ := Aside0.mk (blk_below (g := gb282) (o := .cells #[.int .u8 (Int.tmod a2 5), .bool a3, .bool a4, .slice Ao37 t279.length co37] 29 (0, 0)) (by (with_reducible repeat (first | refine blk_drewN ?_ _ | refine blk_drew ?_ | refine blk_alloc ?_ _)); exact BK282.out) hb)
                                      have n6_ := Aside0.mk (blk_below (g := gb290) (o := .cells #[.int .u8 t284, .bool t285, .bool t286, .slice Ao50 t287.length co50] 29 (0, 0)) (by (with_reducible repeat (first | refine blk_drewN ?_ _ | refine blk_drew ?_ | refine blk_alloc ?_ _)); exact BK290.out) hb)
                                      have n7_ := Aside0.mk (below_step (by repeat (first | (with_reducible first | exact HB.out | apply below_alloc | apply pw_below_drewN | apply below_drew1 | refine below_set ?_ GE276.out | refine below_set ?_ GE282.out | refine below_set ?_ GE290.out) | exact HB.out)) hb)
                                      clear HO281
                                      clear HO289
                                      clear HO297
                                      clear BK276
                                      clear BK282
                                      clear BK290
                                      clear HB
                                      have HO281 := n0_
                                      have HO289 := n1_
                                      have HO297 := n2_
                                      have HO302 := n3_
                                      have BK276 := n4_
                                      have BK282 := n5_
                                      have BK290 := n6_
                                      have HB := n7_
                                      clear n0_ n1_ n2_ n3_ n4_ n5_ n6_ n7_
                                      clear hb ho63
                                      obtain ⟨Ao64, co64, eo64⟩ := Kd.R_slice HO302.out
                                      subst eo64
                                      obtain ⟨ado64, fo64, _⟩ := Kd.at_string (Kd.R_reads' HO302.out).2.2 0 (by decide) (by rw [Ny300.out]; simp)
                                      cases fo64
                                      refine hK.out _ _ ⟨(blk_cell BK282.out 0).trans rfl, (blk_cell BK282.out 1).trans rfl, (blk_cell BK282.out 2).trans rfl, (blk_cell BK282.out 3).trans rfl⟩ (fun hHeld => ?_)
                                      clear hK K
                                      refine norm_ (a' := ?_) ?_ ?_
                                      rotate_left
                                      · show Act.put _ (some 72) _ = _
                                        simp only [Act.put, List.setIfInBounds_toArray, List.set_cons_zero, List.set_cons_succ, i64_w, i32_w]
                                        rfl
                                      refine pure_ (i := 25) (N := some 75) (v := ?_) (a' := ?_) #[true, true, true, true, true, true, true, true, true, true, true, true, true, true, true, true, true, true, true, true, true, false, true, true, true, true, false, false, false, false, false] rfl rfl (any_of HT_.out (by kernel_rfl)) (fun _ _ _ h => h) (Or.inl ⟨by rfl, ?_⟩) ?_ ?_
                                      rotate_left
                                      · intro w'
                                        go_simp
                                        with_reducible rfl
                                      rotate_left
                                      · simp only [Act.put, List.setIfInBounds_toArray, List.set_cons_zero, List.set_cons_succ, i64_w, i32_w]
                                        rfl
                                      exact norm_ (by first | (simp only [putAll, Act.put, List.setIfInBounds_toArray, List.set_cons_zero, List.set_cons_succ]; done) | (simp only [putAll, Act.put, List.setIfInBounds_toArray, List.set_cons_zero, List.set_cons_succ]; rfl)) (hJ16_20_22 (.slice (some adz_v296) y295.length co61, adz_v296, .slice (some ado64) y300.length co64, ado64) _ ⟨hHeld, (by (with_reducible repeat (first | apply Kd.R_alloc | apply Kd.R_drewN | apply Kd.R_drew)); exact HO281.out), (by (with_reducible repeat (first | apply Kd.R_alloc | apply Kd.R_drewN | apply Kd.R_drew)); exact HO289.out), (by (with_reducible repeat (first | apply Kd.R_alloc | apply Kd.R_drewN | apply Kd.R_drew)); exact Kd.R_mono HO297.out (fun _ hk => hk.2)), (by (with_reducible repeat (first | apply Kd.R_alloc | apply Kd.R_drewN | apply Kd.R_drew)); exact Kd.R_mono HO302.out (fun _ hk => hk.2)), ⟨_, rfl⟩, ⟨_, rfl⟩, (by (with_reducible repeat (first | refine blk_drewN ?_ _ | refine blk_drew ?_ | refine blk_alloc ?_ _)); exact BK276.out), (by (with_reducible repeat (first | refine blk_drewN ?_ _ | refine blk_drew ?_ | refine blk_alloc ?_ _)); exact BK282.out), (by (with_reducible repeat (first | refine blk_drewN ?_ _ | refine blk_drew ?_ | refine blk_alloc ?_ _)); exact BK290.out), (by repeat (first | (with_reducible first | exact HB.out | apply below_alloc | apply pw_below_drewN | apply below_drew1 | refine below_set ?_ GE276.out | refine below_set ?_ GE282.out | refine below_set ?_ GE290.out) | exact HB.out))⟩)
                                · skip
                                  rintro ⟨v296, adz_v296, v301, adz_v301⟩ w63 ⟨hS_, h0_, h1_, h2_, h3_, h4_, h5_, h6_, h7_, h8_, h9_⟩
                                  have n0_ : Aside0 (Kd.R (Kd.int .i32) 37 w63 w.heap.size (fun k_ => some k_ ≠ (.slice Ao50 t287.length co50 : Value).ownBlock) (.slice Ao37 t279.length co37) t279) := ⟨h0_⟩
                                  have n1_ : Aside0 (Kd.R (Kd.int .i32) 37 w63 w.heap.size (fun k_ => some k_ ≠ (.slice Ao37 t279.length co37 : Value).ownBlock) (.slice Ao50 t287.length co50) t287) := ⟨h1_⟩
                                  have n2_ : Aside0 (Kd.R Kd.string 9 w63 w.heap.size (fun k_ => some k_ ≠ (v301 : Value).ownBlock) v296 y295) := ⟨h2_⟩
                                  have n3_ : Aside0 (Kd.R Kd.string 9 w63 w.heap.size (fun k_ => some k_ ≠ (v296 : Value).ownBlock) v301 y300) := ⟨h3_⟩
                                  have n4_ : Aside0 (∃ c_, (v296 : Value) = .slice (some adz_v296) y295.length c_) := ⟨h4_⟩
                                  have n5_ : Aside0 (∃ c_, (v301 : Value) = .slice (some adz_v301) y300.length c_) := ⟨h5_⟩
                                  have n6_ : Aside0 (w63.heap[gb276]? = some (.cells #[.int .u8 a0_0, .bool a0_1, .bool a0_2, .slice Ao37 t279.length co37] 29 (0, 0))) := ⟨h6_⟩
                                  have n7_ : Aside0 (w63.heap[gb282]? = some (.cells #[.int .u8 (Int.tmod a2 5), .bool a3, .bool a4, .slice Ao37 t279.length co37] 29 (0, 0))) := ⟨h7_⟩
                                  have n8_ : Aside0 (w63.heap[gb290]? = some (.cells #[.int .u8 t284, .bool t285, .bool t286, .slice Ao50 t287.length co50] 29 (0, 0))) := ⟨h8_⟩
                                  have n9_ : Aside0 (Below w.heap.size w w63) := ⟨h9_⟩
                                  clear HO281
                                  clear HO289
                                  clear BK276
                                  clear BK282
                                  clear BK290
                                  clear HB
                                  clear h0_ h1_ h2_ h3_ h4_ h5_ h6_ h7_ h8_ h9_
                                  have HO281 := n0_
                                  have HO289 := n1_
                                  have HO297 := n2_
                                  have HO302 := n3_
                                  have HA_HO297 := n4_
                                  have HA_HO302 := n5_
                                  have BK276 := n6_
                                  have BK282 := n7_
                                  have BK290 := n8_
                                  have HB := n9_
                                  clear n0_ n1_ n2_ n3_ n4_ n5_ n6_ n7_ n8_ n9_
                                  have hHeld : w63.cell? ⟨gb282, 0, none⟩ = some (.int .u8 (Int.tmod a2 5)) ∧ w63.cell? ⟨gb282, 1, none⟩ = some (.bool a3) ∧ w63.cell? ⟨gb282, 2, none⟩ = some (.bool a4) ∧ w63.cell? ⟨gb282, 3, none⟩ = some (.slice Ao37 t279.length co37) := hS_
                                  obtain ⟨co64, eo64⟩ := HA_HO297.out
                                  clear HA_HO297
                                  subst eo64
                                  obtain ⟨co65, eo65⟩ := HA_HO302.out
                                  clear HA_HO302
                                  subst eo65
                                  refine norm_ (a' := ?_) ?_ ?_
                                  rotate_left
                                  · simp only [putAll, Act.put, List.setIfInBounds_toArray, List.set_cons_zero, List.set_cons_succ]
                                    rfl
                                  refine one_ (i := 20) (N := some 70) #[true, true, true, true, true, true, true, true, true, true, true, true, true, true, true, true, true, true, true, true, true, false, true, true, true, true, true, false, false, false, false] rfl rfl (one_of HT_.out (by kernel_rfl)) (by decide) (fun K hK => ?_)
                                  (have p298 : 0 ≤ ((ji30) : Int) := of_decide_eq_true (by first | (with_reducible assumption) | assumption); have q298 : (ji30) < (y295.length : Int) := of_decide_eq_true (by first | (with_reducible assumption) | assumption); obtain ⟨ad298, e298, hx298_0⟩ := Kd.at_string (Kd.R_reads' HO297.out).2.2 (ji30) p298 q298; obtain rfl : adz_v296 = ad298 := (by injection e298))
                                  refine value_ (w1 := ?_) (v := ?_) (by rfl) rfl ?_ ?_
                                  rotate_left 2
                                  · go_simp
                                    constructor
                                    · rfl
                                    · rfl
                                  clear hx298_0
                                  refine hK.out _ _ ⟨(blk_cell BK282.out 0).trans rfl, (blk_cell BK282.out 1).trans rfl, (blk_cell BK282.out 2).trans rfl, (blk_cell BK282.out 3).trans rfl⟩ (fun hHeld => ?_)
                                  clear hK K
                                  refine norm_ (a' := ?_) ?_ ?_
                                  rotate_left
                                  · show Act.put _ (some 70) _ = _
                                    simp only [Act.put, List.setIfInBounds_toArray, List.set_cons_zero, List.set_cons_succ, i64_w, i32_w]
                                    rfl
                                  exact norm_ (by first | (simp only [putAll, Act.put, List.setIfInBounds_toArray, List.set_cons_zero, List.set_cons_succ]; done) | (simp only [putAll, Act.put, List.setIfInBounds_toArray, List.set_cons_zero, List.set_cons_succ]; rfl)) (hJ16_20_22_26 (.slice (some adz_v296) y295.length co64, adz_v296, .slice (some adz_v301) y300.length co65, adz_v301) _ ⟨hHeld, (by (with_reducible repeat (first | apply Kd.R_alloc | apply Kd.R_drewN | apply Kd.R_drew)); exact HO281.out), (by (with_reducible repeat (first | apply Kd.R_alloc | apply Kd.R_drewN | apply Kd.R_drew)); exact HO289.out), (by (with_reducible repeat (first | apply Kd.R_alloc | apply Kd.R_drewN | apply Kd.R_drew)); exact HO297.out), (by (with_reducible repeat (first | apply Kd.R_alloc | apply Kd.R_drewN | apply Kd.R_drew)); exact HO302.out), ⟨_, rfl⟩, ⟨_, rfl⟩, (by (with_reducible repeat (first | refine blk_drewN ?_ _ | refine blk_drew ?_ | refine blk_alloc ?_ _)); exact BK276.out), (by (with_reducible repeat (first | refine blk_drewN ?_ _ | refine blk_drew ?_ | refine blk_alloc ?_ _)); exact BK282.out), (by (with_reducible repeat (first | refine blk_drewN ?_ _ | refine blk_drew ?_ | refine blk_alloc ?_ _)); exact BK290.out), (by repeat (first | (with_reducible first | exact HB.out | apply below_alloc | apply pw_below_drewN | apply below_drew1 | refine below_set ?_ GE276.out | refine below_set ?_ GE282.out | refine below_set ?_ GE290.out) | exact HB.out))⟩)
                              · skip
                                rintro ⟨v296, adz_v296, v301, adz_v301⟩ w63 ⟨hS_, h0_, h1_, h2_, h3_, h4_, h5_, h6_, h7_, h8_, h9_⟩
                                have n0_ : Aside0 (Kd.R (Kd.int .i32) 37 w63 w.heap.size (fun k_ => some k_ ≠ (.slice Ao50 t287.length co50 : Value).ownBlock) (.slice Ao37 t279.length co37) t279) := ⟨h0_⟩
                                have n1_ : Aside0 (Kd.R (Kd.int .i32) 37 w63 w.heap.size (fun k_ => some k_ ≠ (.slice Ao37 t279.length co37 : Value).ownBlock) (.slice Ao50 t287.length co50) t287) := ⟨h1_⟩
                                have n2_ : Aside0 (Kd.R Kd.string 9 w63 w.heap.size (fun k_ => some k_ ≠ (v301 : Value).ownBlock) v296 y295) := ⟨h2_⟩
                                have n3_ : Aside0 (Kd.R Kd.string 9 w63 w.heap.size (fun k_ => some k_ ≠ (v296 : Value).ownBlock) v301 y300) := ⟨h3_⟩
                                have n4_ : Aside0 (∃ c_, (v296 : Value) = .slice (some adz_v296) y295.length c_) := ⟨h4_⟩
                                have n5_ : Aside0 (∃ c_, (v301 : Value) = .slice (some adz_v301) y300.length c_) := ⟨h5_⟩
                                have n6_ : Aside0 (w63.heap[gb276]? = some (.cells #[.int .u8 a0_0, .bool a0_1, .bool a0_2, .slice Ao37 t279.length co37] 29 (0, 0))) := ⟨h6_⟩
                                have n7_ : Aside0 (w63.heap[gb282]? = some (.cells #[.int .u8 (Int.tmod a2 5), .bool a3, .bool a4, .slice Ao37 t279.length co37] 29 (0, 0))) := ⟨h7_⟩
                                have n8_ : Aside0 (w63.heap[gb290]? = some (.cells #[.int .u8 t284, .bool t285, .bool t286, .slice Ao50 t287.length co50] 29 (0, 0))) := ⟨h8_⟩
                                have n9_ : Aside0 (Below w.heap.size w w63) := ⟨h9_⟩
                                clear HO281
                                clear HO289
                                clear BK276
                                clear BK282
                                clear BK290
                                clear HB
                                clear h0_ h1_ h2_ h3_ h4_ h5_ h6_ h7_ h8_ h9_
                                have HO281 := n0_
                                have HO289 := n1_
                                have HO297 := n2_
                                have HO302 := n3_
                                have HA_HO297 := n4_
                                have HA_HO302 := n5_
                                have BK276 := n6_
                                have BK282 := n7_
                                have BK290 := n8_
                                have HB := n9_
                                clear n0_ n1_ n2_ n3_ n4_ n5_ n6_ n7_ n8_ n9_
                                have hHeld : w63.cell? ⟨gb282, 0, none⟩ = some (.int .u8 (Int.tmod a2 5)) ∧ w63.cell? ⟨gb282, 1, none⟩ = some (.bool a3) ∧ w63.cell? ⟨gb282, 2, none⟩ = some (.bool a4) ∧ w63.cell? ⟨gb282, 3, none⟩ = some (.slice Ao37 t279.length co37) := hS_
                                obtain ⟨co64, eo64⟩ := HA_HO297.out
                                clear HA_HO297
                                subst eo64
                                obtain ⟨co65, eo65⟩ := HA_HO302.out
                                clear HA_HO302
                                subst eo65
                                refine norm_ (a' := ?_) ?_ ?_
                                rotate_left
                                · simp only [putAll, Act.put, List.setIfInBounds_toArray, List.set_cons_zero, List.set_cons_succ]
                                  rfl
                                refine two_ (i := 21) (j := 26) (Ni := some 71) (Nj := some 76) #[true, true, true, true, true, true, true, true, true, true, true, true, true, true, true, true, true, true, true, true, true, true, true, true, true, true, false, false, false, false, false] #[true, true, true, true, true, true, true, true, true, true, true, true, true, true, true, true, true, true, true, true, true, false, true, true, true, true, true, false, false, false, false] rfl rfl rfl rfl (two_of HT_.out (by kernel_rfl)) (by decide) (by decide) (fun K hK => ?_) (fun K hK => ?_)
                                · skip
                                  refine goes_ Tryd.func20 (by kernel_rfl) rfl #[.string (rdOf ByteArray.empty y295 (ji30))] (by rfl) rfl rfl (by (try simp only [List.map_toArray, List.map_cons, List.map_nil]); first | done | (simp only [hji30]; rfl) | rfl | (simp only [List.length_drop, List.length_take]; rfl)) ?_
                                  with_reducible refine (codec_Named.calls (rdOf ByteArray.empty y295 (ji30)) t299 _ A33.out).mono ?_
                                  rintro e w66 ⟨rfl, hb⟩
                                  refine ⟨_, rfl, ?_⟩
                                  have n0_ := Aside0.mk (Kd.R_below (by (with_reducible repeat (first | apply Kd.R_alloc | apply Kd.R_drewN | apply Kd.R_drew)); exact HO281.out) hb)
                                  have n1_ := Aside0.mk (Kd.R_below (by (with_reducible repeat (first | apply Kd.R_alloc | apply Kd.R_drewN | apply Kd.R_drew)); exact HO289.out) hb)
                                  have n2_ := Aside0.mk (Kd.R_below (by (with_reducible repeat (first | apply Kd.R_alloc | apply Kd.R_drewN | apply Kd.R_drew)); exact HO297.out) hb)
                                  have n3_ := Aside0.mk (Kd.R_below (by (with_reducible repeat (first | apply Kd.R_alloc | apply Kd.R_drewN | apply Kd.R_drew)); exact HO302.out) hb)
                                  have n4_ := Aside0.mk (blk_below (g := gb276) (o := .cells #[.int .u8 a0_0, .bool a0_1, .bool a0_2, .slice Ao37 t279.length co37] 29 (0, 0)) (by (with_reducible repeat (first | refine blk_drewN ?_ _ | refine blk_drew ?_ | refine blk_alloc ?_ _)); exact BK276.out) hb)
                                  have n5_ := Aside0.mk (blk_below (g := gb282) (o := .cells #[.int .u8 (Int.tmod a2 5), .bool a3, .bool a4, .slice Ao37 t279.length co37] 29 (0, 0)) (by (with_reducible repeat (first | refine blk_drewN ?_ _ | refine blk_drew ?_ | refine blk_alloc ?_ _)); exact BK282.out) hb)
                                  have n6_ := Aside0.mk (blk_below (g := gb290) (o := .cells #[.int .u8 t284, .bool t285, .bool t286, .slice Ao50 t287.length co50] 29 (0, 0)) (by (with_reducible repeat (first | refine blk_drewN ?_ _ | refine blk_drew ?_ | refine blk_alloc ?_ _)); exact BK290.out) hb)
                                  have n7_ := Aside0.mk (below_step (by repeat (first | (with_reducible first | exact HB.out | apply below_alloc | apply pw_below_drewN | apply below_drew1 | refine below_set ?_ GE276.out | refine below_set ?_ GE282.out | refine below_set ?_ GE290.out) | exact HB.out)) hb)
                                  clear HO281
                                  clear HO289
                                  clear HO297
                                  clear HO302
                                  clear BK276
                                  clear BK282
                                  clear BK290
                                  clear HB
                                  have HO281 := n0_
                                  have HO289 := n1_
                                  have HO297 := n2_
                                  have HO302 := n3_
                                  have BK276 := n4_
                                  have BK282 := n5_
                                  have BK290 := n6_
                                  have HB := n7_
                                  clear n0_ n1_ n2_ n3_ n4_ n5_ n6_ n7_
                                  (try clear hb)
                                  (try clear hb2)
                                  (try clear hk)
                                  (try clear hi)
                                  refine hK.out _ _ ⟨(blk_cell BK282.out 0).trans rfl, (blk_cell BK282.out 1).trans rfl, (blk_cell BK282.out 2).trans rfl, (blk_cell BK282.out 3).trans rfl⟩ (fun hHeld => ?_)
                                  clear hK K
                                  refine norm_ (a' := ?_) ?_ ?_
                                  rotate_left
                                  · show Act.put _ (some 71) _ = _
                                    simp only [Act.put, List.setIfInBounds_toArray, List.set_cons_zero, List.set_cons_succ, i64_w, i32_w]
                                    rfl
                                  exact norm_ (by first | (simp only [putAll, Act.put, List.setIfInBounds_toArray, List.set_cons_zero, List.set_cons_succ]; done) | (simp only [putAll, Act.put, List.setIfInBounds_toArray, List.set_cons_zero, List.set_cons_succ]; rfl)) (hJ16_20_21_22 (.slice (some adz_v296) y295.length co64, adz_v296, .slice (some adz_v301) y300.length co65, adz_v301) _ ⟨hHeld, (by (with_reducible repeat (first | apply Kd.R_alloc | apply Kd.R_drewN | apply Kd.R_drew)); exact HO281.out), (by (with_reducible repeat (first | apply Kd.R_alloc | apply Kd.R_drewN | apply Kd.R_drew)); exact HO289.out), (by (with_reducible repeat (first | apply Kd.R_alloc | apply Kd.R_drewN | apply Kd.R_drew)); exact HO297.out), (by (with_reducible repeat (first | apply Kd.R_alloc | apply Kd.R_drewN | apply Kd.R_drew)); exact HO302.out), ⟨_, rfl⟩, ⟨_, rfl⟩, (by (with_reducible repeat (first | refine blk_drewN ?_ _ | refine blk_drew ?_ | refine blk_alloc ?_ _)); exact BK276.out), (by (with_reducible repeat (first | refine blk_drewN ?_ _ | refine blk_drew ?_ | refine blk_alloc ?_ _)); exact BK282.out), (by (with_reducible repeat (first | refine blk_drewN ?_ _ | refine blk_drew ?_ | refine blk_alloc ?_ _)); exact BK290.out), (by repeat (first | (with_reducible first | exact HB.out | apply below_alloc | apply pw_below_drewN | apply below_drew1 | refine below_set ?_ GE276.out | refine below_set ?_ GE282.out | refine below_set ?_ GE290.out) | exact HB.out))⟩)
                                · skip
                                  (have p303 : 0 ≤ ((ji30) : Int) := of_decide_eq_true (by first | (with_reducible assumption) | assumption); have q303 : (ji30) < (y300.length : Int) := of_decide_eq_true (by first | (with_reducible assumption) | assumption); obtain ⟨ad303, e303, hx303_0⟩ := Kd.at_string (Kd.R_reads' HO302.out).2.2 (ji30) p303 q303; obtain rfl : adz_v301 = ad303 := (by injection e303))
                                  refine value_ (w1 := ?_) (v := ?_) (by rfl) rfl ?_ ?_
                                  rotate_left 2
                                  · go_simp
                                    constructor
                                    · rfl
                                    · rfl
                                  clear hx303_0
                                  refine hK.out _ _ ⟨(blk_cell BK282.out 0).trans rfl, (blk_cell BK282.out 1).trans rfl, (blk_cell BK282.out 2).trans rfl, (blk_cell BK282.out 3).trans rfl⟩ (fun hHeld => ?_)
                                  clear hK K
                                  refine norm_ (a' := ?_) ?_ ?_
                                  rotate_left
                                  · show Act.put _ (some 76) _ = _
                                    simp only [Act.put, List.setIfInBounds_toArray, List.set_cons_zero, List.set_cons_succ, i64_w, i32_w]
                                    rfl
                                  exact norm_ (by first | (simp only [putAll, Act.put, List.setIfInBounds_toArray, List.set_cons_zero, List.set_cons_succ]; done) | (simp only [putAll, Act.put, List.setIfInBounds_toArray, List.set_cons_zero, List.set_cons_succ]; rfl)) (hJ16_20_22_26 (.slice (some adz_v296) y295.length co64, adz_v296, .slice (some adz_v301) y300.length co65, adz_v301) _ ⟨hHeld, (by (with_reducible repeat (first | apply Kd.R_alloc | apply Kd.R_drewN | apply Kd.R_drew)); exact HO281.out), (by (with_reducible repeat (first | apply Kd.R_alloc | apply Kd.R_drewN | apply Kd.R_drew)); exact HO289.out), (by (with_reducible repeat (first | apply Kd.R_alloc | apply Kd.R_drewN | apply Kd.R_drew)); exact HO297.out), (by (with_reducible repeat (first | apply Kd.R_alloc | apply Kd.R_drewN | apply Kd.R_drew)); exact HO302.out), ⟨_, rfl⟩, ⟨_, rfl⟩, (by (with_reducible repeat (first | refine blk_drewN ?_ _ | refine blk_drew ?_ | refine blk_alloc ?_ _)); exact BK276.out), (by (with_reducible repeat (first | refine blk_drewN ?_ _ | refine blk_drew ?_ | refine blk_alloc ?_ _)); exact BK282.out), (by (with_reducible repeat (first | refine blk_drewN ?_ _ | refine blk_drew ?_ | refine blk_alloc ?_ _)); exact BK290.out), (by repeat (first | (with_reducible first | exact HB.out | apply below_alloc | apply pw_below_drewN | apply below_drew1 | refine below_set ?_ GE276.out | refine below_set ?_ GE282.out | refine below_set ?_ GE290.out) | exact HB.out))⟩)
                            · skip
                              rintro ⟨v296, adz_v296⟩ w61 ⟨hS_, h0_, h1_, h2_, h3_, h4_, h5_, h6_, h7_⟩
                              have n0_ : Aside0 (Kd.R (Kd.int .i32) 37 w61 w.heap.size (fun k_ => some k_ ≠ (.slice Ao50 t287.length co50 : Value).ownBlock) (.slice Ao37 t279.length co37) t279) := ⟨h0_⟩
                              have n1_ : Aside0 (Kd.R (Kd.int .i32) 37 w61 w.heap.size (fun k_ => some k_ ≠ (.slice Ao37 t279.length co37 : Value).ownBlock) (.slice Ao50 t287.length co50) t287) := ⟨h1_⟩
                              have n2_ : Aside0 (Kd.R Kd.string 9 w61 w.heap.size (fun _ => True) v296 y295) := ⟨h2_⟩
                              have n3_ : Aside0 (∃ c_, (v296 : Value) = .slice (some adz_v296) y295.length c_) := ⟨h3_⟩
                              have n4_ : Aside0 (w61.heap[gb276]? = some (.cells #[.int .u8 a0_0, .bool a0_1, .bool a0_2, .slice Ao37 t279.length co37] 29 (0, 0))) := ⟨h4_⟩
                              have n5_ : Aside0 (w61.heap[gb282]? = some (.cells #[.int .u8 (Int.tmod a2 5), .bool a3, .bool a4, .slice Ao37 t279.length co37] 29 (0, 0))) := ⟨h5_⟩
                              have n6_ : Aside0 (w61.heap[gb290]? = some (.cells #[.int .u8 t284, .bool t285, .bool t286, .slice Ao50 t287.length co50] 29 (0, 0))) := ⟨h6_⟩
                              have n7_ : Aside0 (Below w.heap.size w w61) := ⟨h7_⟩
                              clear HO281
                              clear HO289
                              clear BK276
                              clear BK282
                              clear BK290
                              clear HB
                              clear h0_ h1_ h2_ h3_ h4_ h5_ h6_ h7_
                              have HO281 := n0_
                              have HO289 := n1_
                              have HO297 := n2_
                              have HA_HO297 := n3_
                              have BK276 := n4_
                              have BK282 := n5_
                              have BK290 := n6_
                              have HB := n7_
                              clear n0_ n1_ n2_ n3_ n4_ n5_ n6_ n7_
                              have hHeld : w61.cell? ⟨gb282, 0, none⟩ = some (.int .u8 (Int.tmod a2 5)) ∧ w61.cell? ⟨gb282, 1, none⟩ = some (.bool a3) ∧ w61.cell? ⟨gb282, 2, none⟩ = some (.bool a4) ∧ w61.cell? ⟨gb282, 3, none⟩ = some (.slice Ao37 t279.length co37) := hS_
                              obtain ⟨co62, eo62⟩ := HA_HO297.out
                              clear HA_HO297
                              subst eo62
                              refine norm_ (a' := ?_) ?_ ?_
                              rotate_left
                              · simp only [putAll, Act.put, List.setIfInBounds_toArray, List.set_cons_zero, List.set_cons_succ]
                                rfl
                              refine one_ (i := 22) (N := some 72) #[true, true, true, true, true, true, true, true, true, true, true, true, true, true, true, true, true, true, true, true, true, true, true, true, true, false, false, false, false, false, false] rfl rfl (one_of HT_.out (by kernel_rfl)) (by decide) (fun K hK => ?_)
                              refine Kd.R_lit_step Kd.string _ 9 ?hg (N := 72) ?hd (xs := ([(⟨#[117, 116, 102, 45, 56]⟩ : ByteArray), (⟨#[117, 116, 102, 45, 49, 54]⟩ : ByteArray), (⟨#[108, 97, 116, 105, 110, 49]⟩ : ByteArray), (⟨#[]⟩ : ByteArray)] : List ByteArray)) (inner := [.string (⟨#[117, 116, 102, 45, 56]⟩ : ByteArray), .string (⟨#[117, 116, 102, 45, 49, 54]⟩ : ByteArray), .string (⟨#[108, 97, 116, 105, 110, 49]⟩ : ByteArray), .string (⟨#[]⟩ : ByteArray)]) (ok := fun _ => True) (okp := fun _ => True) ?hr ?hp (fun _ hk => hk) trivial (Below.refl _ _) (Nat.le_refl _) (by simp) ?_; (case hd => rfl); (case hg => rfl); (case hr => first | (go_simp; done) | (go_simp; rfl)); (case hp => exact (Reps.one (show Kd.M Kd.string _ _ _ (⟨#[117, 116, 102, 45, 56]⟩ : ByteArray) [.string (⟨#[117, 116, 102, 45, 56]⟩ : ByteArray)] from rfl) (Reps.one (show Kd.M Kd.string _ _ _ (⟨#[117, 116, 102, 45, 49, 54]⟩ : ByteArray) [.string (⟨#[117, 116, 102, 45, 49, 54]⟩ : ByteArray)] from rfl) (Reps.one (show Kd.M Kd.string _ _ _ (⟨#[108, 97, 116, 105, 110, 49]⟩ : ByteArray) [.string (⟨#[108, 97, 116, 105, 110, 49]⟩ : ByteArray)] from rfl) (Reps.one (show Kd.M Kd.string _ _ _ (⟨#[]⟩ : ByteArray) [.string (⟨#[]⟩ : ByteArray)] from rfl) (Reps.none _ _))))))
                              intro v301 w63 ho64 hb hg_ hnew_
                              clear hg_ hnew_
                              (first | rw [← Ny300.out] at ho64 | (simp only [Int.reduceToNat] at ho64; rw [← Ny300.out] at ho64))
                              have n0_ := Aside0.mk (Kd.R_below (by (with_reducible repeat (first | apply Kd.R_alloc | apply Kd.R_drewN | apply Kd.R_drew)); exact HO281.out) hb)
                              have n1_ := Aside0.mk (Kd.R_below (by (with_reducible repeat (first | apply Kd.R_alloc | apply Kd.R_drewN | apply Kd.R_drew)); exact HO289.out) hb)
                              have n2_ := Aside0.mk (Kd.R_elder' (by (with_reducible repeat (first | apply Kd.R_alloc | apply Kd.R_drewN | apply Kd.R_drew)); exact HO297.out) (Kd.R_base ho64) hb)
                              have n3_ := Aside0.mk (Kd.R_lower (Kd.R_new' ho64 (Kd.R_lt (by (with_reducible repeat (first | apply Kd.R_alloc | apply Kd.R_drewN | apply Kd.R_drew)); exact HO297.out))) (below_size (by repeat (first | (with_reducible first | exact HB.out | apply below_alloc | apply pw_below_drewN | apply below_drew1 | refine below_set ?_ GE276.out | refine below_set ?_ GE282.out | refine below_set ?_ GE290.out) | exact HB.out))))
                              have n4_ := Aside0.mk (blk_below (g := gb276) (o := .cells #[.int .u8 a0_0, .bool a0_1, .bool a0_2, .slice Ao37 t279.length co37] 29 (0, 0)) (by (with_reducible repeat (first | refine blk_drewN ?_ _ | refine blk_drew ?_ | refine blk_alloc ?_ _)); exact BK276.out) hb)
                              have n5_ := Aside0.mk (blk_below (g := gb282) (o := .cells #[.int .u8 (Int.tmod a2 5), .bool a3, .bool a4, .slice Ao37 t279.length co37] 29 (0, 0)) (by (with_reducible repeat (first | refine blk_drewN ?_ _ | refine blk_drew ?_ | refine blk_alloc ?_ _)); exact BK282.out) hb)
                              have n6_ := Aside0.mk (blk_below (g := gb290) (o := .cells #[.int .u8 t284, .bool t285, .bool t286, .slice Ao50 t287.length co50] 29 (0, 0)) (by (with_reducible repeat (first | refine blk_drewN ?_ _ | refine blk_drew ?_ | refine blk_alloc ?_ _)); exact BK290.out) hb)
                              have n7_ := Aside0.mk (below_step (by repeat (first | (with_reducible first | exact HB.out | apply below_alloc | apply pw_below_drewN | apply below_drew1 | refine below_set ?_ GE276.out | refine below_set ?_ GE282.out | refine below_set ?_ GE290.out) | exact HB.out)) hb)
                              clear HO281
                              clear HO289
                              clear HO297
                              clear BK276
                              clear BK282
                              clear BK290
                              clear HB
                              have HO281 := n0_
                              have HO289 := n1_
                              have HO297 := n2_
                              have HO302 := n3_
                              have BK276 := n4_
                              have BK282 := n5_
                              have BK290 := n6_
                              have HB := n7_
                              clear n0_ n1_ n2_ n3_ n4_ n5_ n6_ n7_
                              clear hb ho64
                              obtain ⟨Ao65, co65, eo65⟩ := Kd.R_slice HO302.out
                              subst eo65
                              obtain ⟨ado65, fo65, _⟩ := Kd.at_string (Kd.R_reads' HO302.out).2.2 0 (by decide) (by rw [Ny300.out]; simp)
                              cases fo65
                              refine hK.out _ _ ⟨(blk_cell BK282.out 0).trans rfl, (blk_cell BK282.out 1).trans rfl, (blk_cell BK282.out 2).trans rfl, (blk_cell BK282.out 3).trans rfl⟩ (fun hHeld => ?_)
                              clear hK K
                              refine norm_ (a' := ?_) ?_ ?_
                              rotate_left
                              · show Act.put _ (some 72) _ = _
                                simp only [Act.put, List.setIfInBounds_toArray, List.set_cons_zero, List.set_cons_succ, i64_w, i32_w]
                                rfl
                              refine pure_ (i := 25) (N := some 75) (v := ?_) (a' := ?_) #[true, true, true, true, true, true, true, true, true, true, true, true, true, true, true, true, true, true, true, true, true, true, true, true, true, true, false, false, false, false, false] rfl rfl (any_of HT_.out (by kernel_rfl)) (fun _ _ _ h => h) (Or.inl ⟨by rfl, ?_⟩) ?_ ?_
                              rotate_left
                              · intro w'
                                go_simp
                                with_reducible rfl
                              rotate_left
                              · simp only [Act.put, List.setIfInBounds_toArray, List.set_cons_zero, List.set_cons_succ, i64_w, i32_w]
                                rfl
                              exact norm_ (by first | (simp only [putAll, Act.put, List.setIfInBounds_toArray, List.set_cons_zero, List.set_cons_succ]; done) | (simp only [putAll, Act.put, List.setIfInBounds_toArray, List.set_cons_zero, List.set_cons_succ]; rfl)) (hJ16_20_21_22 (.slice (some adz_v296) y295.length co62, adz_v296, .slice (some ado65) y300.length co65, ado65) _ ⟨hHeld, (by (with_reducible repeat (first | apply Kd.R_alloc | apply Kd.R_drewN | apply Kd.R_drew)); exact HO281.out), (by (with_reducible repeat (first | apply Kd.R_alloc | apply Kd.R_drewN | apply Kd.R_drew)); exact HO289.out), (by (with_reducible repeat (first | apply Kd.R_alloc | apply Kd.R_drewN | apply Kd.R_drew)); exact Kd.R_mono HO297.out (fun _ hk => hk.2)), (by (with_reducible repeat (first | apply Kd.R_alloc | apply Kd.R_drewN | apply Kd.R_drew)); exact Kd.R_mono HO302.out (fun _ hk => hk.2)), ⟨_, rfl⟩, ⟨_, rfl⟩, (by (with_reducible repeat (first | refine blk_drewN ?_ _ | refine blk_drew ?_ | refine blk_alloc ?_ _)); exact BK276.out), (by (with_reducible repeat (first | refine blk_drewN ?_ _ | refine blk_drew ?_ | refine blk_alloc ?_ _)); exact BK282.out), (by (with_reducible repeat (first | refine blk_drewN ?_ _ | refine blk_drew ?_ | refine blk_alloc ?_ _)); exact BK290.out), (by repeat (first | (with_reducible first | exact HB.out | apply below_alloc | apply pw_below_drewN | apply below_drew1 | refine below_set ?_ GE276.out | refine below_set ?_ GE282.out | refine below_set ?_ GE290.out) | exact HB.out))⟩)
                          · skip
                            rintro ⟨v296, adz_v296, v301, adz_v301⟩ w63 ⟨hS_, h0_, h1_, h2_, h3_, h4_, h5_, h6_, h7_, h8_, h9_⟩
                            have n0_ : Aside0 (Kd.R (Kd.int .i32) 37 w63 w.heap.size (fun k_ => some k_ ≠ (.slice Ao50 t287.length co50 : Value).ownBlock) (.slice Ao37 t279.length co37) t279) := ⟨h0_⟩
                            have n1_ : Aside0 (Kd.R (Kd.int .i32) 37 w63 w.heap.size (fun k_ => some k_ ≠ (.slice Ao37 t279.length co37 : Value).ownBlock) (.slice Ao50 t287.length co50) t287) := ⟨h1_⟩
                            have n2_ : Aside0 (Kd.R Kd.string 9 w63 w.heap.size (fun k_ => some k_ ≠ (v301 : Value).ownBlock) v296 y295) := ⟨h2_⟩
                            have n3_ : Aside0 (Kd.R Kd.string 9 w63 w.heap.size (fun k_ => some k_ ≠ (v296 : Value).ownBlock) v301 y300) := ⟨h3_⟩
                            have n4_ : Aside0 (∃ c_, (v296 : Value) = .slice (some adz_v296) y295.length c_) := ⟨h4_⟩
                            have n5_ : Aside0 (∃ c_, (v301 : Value) = .slice (some adz_v301) y300.length c_) := ⟨h5_⟩
                            have n6_ : Aside0 (w63.heap[gb276]? = some (.cells #[.int .u8 a0_0, .bool a0_1, .bool a0_2, .slice Ao37 t279.length co37] 29 (0, 0))) := ⟨h6_⟩
                            have n7_ : Aside0 (w63.heap[gb282]? = some (.cells #[.int .u8 (Int.tmod a2 5), .bool a3, .bool a4, .slice Ao37 t279.length co37] 29 (0, 0))) := ⟨h7_⟩
                            have n8_ : Aside0 (w63.heap[gb290]? = some (.cells #[.int .u8 t284, .bool t285, .bool t286, .slice Ao50 t287.length co50] 29 (0, 0))) := ⟨h8_⟩
                            have n9_ : Aside0 (Below w.heap.size w w63) := ⟨h9_⟩
                            clear HO281
                            clear HO289
                            clear BK276
                            clear BK282
                            clear BK290
                            clear HB
                            clear h0_ h1_ h2_ h3_ h4_ h5_ h6_ h7_ h8_ h9_
                            have HO281 := n0_
                            have HO289 := n1_
                            have HO297 := n2_
                            have HO302 := n3_
                            have HA_HO297 := n4_
                            have HA_HO302 := n5_
                            have BK276 := n6_
                            have BK282 := n7_
                            have BK290 := n8_
                            have HB := n9_
                            clear n0_ n1_ n2_ n3_ n4_ n5_ n6_ n7_ n8_ n9_
                            have hHeld : w63.cell? ⟨gb282, 0, none⟩ = some (.int .u8 (Int.tmod a2 5)) ∧ w63.cell? ⟨gb282, 1, none⟩ = some (.bool a3) ∧ w63.cell? ⟨gb282, 2, none⟩ = some (.bool a4) ∧ w63.cell? ⟨gb282, 3, none⟩ = some (.slice Ao37 t279.length co37) := hS_
                            obtain ⟨co64, eo64⟩ := HA_HO297.out
                            clear HA_HO297
                            subst eo64
                            obtain ⟨co65, eo65⟩ := HA_HO302.out
                            clear HA_HO302
                            subst eo65
                            refine norm_ (a' := ?_) ?_ ?_
                            rotate_left
                            · simp only [putAll, Act.put, List.setIfInBounds_toArray, List.set_cons_zero, List.set_cons_succ]
                              rfl
                            refine one_ (i := 21) (N := some 71) #[true, true, true, true, true, true, true, true, true, true, true, true, true, true, true, true, true, true, true, true, true, true, true, true, true, true, true, false, false, false, false] rfl rfl (one_of HT_.out (by kernel_rfl)) (by decide) (fun K hK => ?_)
                            refine goes_ Tryd.func20 (by kernel_rfl) rfl #[.string (rdOf ByteArray.empty y295 (ji30))] (by rfl) rfl rfl (by (try simp only [List.map_toArray, List.map_cons, List.map_nil]); first | done | (simp only [hji30]; rfl) | rfl | (simp only [List.length_drop, List.length_take]; rfl)) ?_
                            with_reducible refine (codec_Named.calls (rdOf ByteArray.empty y295 (ji30)) t299 _ A33.out).mono ?_
                            rintro e w66 ⟨rfl, hb⟩
                            refine ⟨_, rfl, ?_⟩
                            have n0_ := Aside0.mk (Kd.R_below (by (with_reducible repeat (first | apply Kd.R_alloc | apply Kd.R_drewN | apply Kd.R_drew)); exact HO281.out) hb)
                            have n1_ := Aside0.mk (Kd.R_below (by (with_reducible repeat (first | apply Kd.R_alloc | apply Kd.R_drewN | apply Kd.R_drew)); exact HO289.out) hb)
                            have n2_ := Aside0.mk (Kd.R_below (by (with_reducible repeat (first | apply Kd.R_alloc | apply Kd.R_drewN | apply Kd.R_drew)); exact HO297.out) hb)
                            have n3_ := Aside0.mk (Kd.R_below (by (with_reducible repeat (first | apply Kd.R_alloc | apply Kd.R_drewN | apply Kd.R_drew)); exact HO302.out) hb)
                            have n4_ := Aside0.mk (blk_below (g := gb276) (o := .cells #[.int .u8 a0_0, .bool a0_1, .bool a0_2, .slice Ao37 t279.length co37] 29 (0, 0)) (by (with_reducible repeat (first | refine blk_drewN ?_ _ | refine blk_drew ?_ | refine blk_alloc ?_ _)); exact BK276.out) hb)
                            have n5_ := Aside0.mk (blk_below (g := gb282) (o := .cells #[.int .u8 (Int.tmod a2 5), .bool a3, .bool a4, .slice Ao37 t279.length co37] 29 (0, 0)) (by (with_reducible repeat (first | refine blk_drewN ?_ _ | refine blk_drew ?_ | refine blk_alloc ?_ _)); exact BK282.out) hb)
                            have n6_ := Aside0.mk (blk_below (g := gb290) (o := .cells #[.int .u8 t284, .bool t285, .bool t286, .slice Ao50 t287.length co50] 29 (0, 0)) (by (with_reducible repeat (first | refine blk_drewN ?_ _ | refine blk_drew ?_ | refine blk_alloc ?_ _)); exact BK290.out) hb)
                            have n7_ := Aside0.mk (below_step (by repeat (first | (with_reducible first | exact HB.out | apply below_alloc | apply pw_below_drewN | apply below_drew1 | refine below_set ?_ GE276.out | refine below_set ?_ GE282.out | refine below_set ?_ GE290.out) | exact HB.out)) hb)
                            clear HO281
                            clear HO289
                            clear HO297
                            clear HO302
                            clear BK276
                            clear BK282
                            clear BK290
                            clear HB
                            have HO281 := n0_
                            have HO289 := n1_
                            have HO297 := n2_
                            have HO302 := n3_
                            have BK276 := n4_
                            have BK282 := n5_
                            have BK290 := n6_
                            have HB := n7_
                            clear n0_ n1_ n2_ n3_ n4_ n5_ n6_ n7_
                            (try clear hb)
                            (try clear hb2)
                            (try clear hk)
                            (try clear hi)
                            refine hK.out _ _ ⟨(blk_cell BK282.out 0).trans rfl, (blk_cell BK282.out 1).trans rfl, (blk_cell BK282.out 2).trans rfl, (blk_cell BK282.out 3).trans rfl⟩ (fun hHeld => ?_)
                            clear hK K
                            refine norm_ (a' := ?_) ?_ ?_
                            rotate_left
                            · show Act.put _ (some 71) _ = _
                              simp only [Act.put, List.setIfInBounds_toArray, List.set_cons_zero, List.set_cons_succ, i64_w, i32_w]
                              rfl
                            exact norm_ (by first | (simp only [putAll, Act.put, List.setIfInBounds_toArray, List.set_cons_zero, List.set_cons_succ]; done) | (simp only [putAll, Act.put, List.setIfInBounds_toArray, List.set_cons_zero, List.set_cons_succ]; rfl)) (hJ16_20_21_22_26 (.slice (some adz_v296) y295.length co64, adz_v296, .slice (some adz_v301) y300.length co65, adz_v301) _ ⟨hHeld, (by (with_reducible repeat (first | apply Kd.R_alloc | apply Kd.R_drewN | apply Kd.R_drew)); exact HO281.out), (by (with_reducible repeat (first | apply Kd.R_alloc | apply Kd.R_drewN | apply Kd.R_drew)); exact HO289.out), (by (with_reducible repeat (first | apply Kd.R_alloc | apply Kd.R_drewN | apply Kd.R_drew)); exact HO297.out), (by (with_reducible repeat (first | apply Kd.R_alloc | apply Kd.R_drewN | apply Kd.R_drew)); exact HO302.out), ⟨_, rfl⟩, ⟨_, rfl⟩, (by (with_reducible repeat (first | refine blk_drewN ?_ _ | refine blk_drew ?_ | refine blk_alloc ?_ _)); exact BK276.out), (by (with_reducible repeat (first | refine blk_drewN ?_ _ | refine blk_drew ?_ | refine blk_alloc ?_ _)); exact BK282.out), (by (with_reducible repeat (first | refine blk_drewN ?_ _ | refine blk_drew ?_ | refine blk_alloc ?_ _)); exact BK290.out), (by repeat (first | (with_reducible first | exact HB.out | apply below_alloc | apply pw_below_drewN | apply below_drew1 | refine below_set ?_ GE276.out | refine below_set ?_ GE282.out | refine below_set ?_ GE290.out) | exact HB.out))⟩)
                        · skip
                          rintro ⟨v296, adz_v296, v301, adz_v301⟩ w64 ⟨hS_, h0_, h1_, h2_, h3_, h4_, h5_, h6_, h7_, h8_, h9_⟩
                          have n0_ : Aside0 (Kd.R (Kd.int .i32) 37 w64 w.heap.size (fun k_ => some k_ ≠ (.slice Ao50 t287.length co50 : Value).ownBlock) (.slice Ao37 t279.length co37) t279) := ⟨h0_⟩
                          have n1_ : Aside0 (Kd.R (Kd.int .i32) 37 w64 w.heap.size (fun k_ => some k_ ≠ (.slice Ao37 t279.length co37 : Value).ownBlock) (.slice Ao50 t287.length co50) t287) := ⟨h1_⟩
                          have n2_ : Aside0 (Kd.R Kd.string 9 w64 w.heap.size (fun k_ => some k_ ≠ (v301 : Value).ownBlock) v296 y295) := ⟨h2_⟩
                          have n3_ : Aside0 (Kd.R Kd.string 9 w64 w.heap.size (fun k_ => some k_ ≠ (v296 : Value).ownBlock) v301 y300) := ⟨h3_⟩
                          have n4_ : Aside0 (∃ c_, (v296 : Value) = .slice (some adz_v296) y295.length c_) := ⟨h4_⟩
                          have n5_ : Aside0 (∃ c_, (v301 : Value) = .slice (some adz_v301) y300.length c_) := ⟨h5_⟩
                          have n6_ : Aside0 (w64.heap[gb276]? = some (.cells #[.int .u8 a0_0, .bool a0_1, .bool a0_2, .slice Ao37 t279.length co37] 29 (0, 0))) := ⟨h6_⟩
                          have n7_ : Aside0 (w64.heap[gb282]? = some (.cells #[.int .u8 (Int.tmod a2 5), .bool a3, .bool a4, .slice Ao37 t279.length co37] 29 (0, 0))) := ⟨h7_⟩
                          have n8_ : Aside0 (w64.heap[gb290]? = some (.cells #[.int .u8 t284, .bool t285, .bool t286, .slice Ao50 t287.length co50] 29 (0, 0))) := ⟨h8_⟩
                          have n9_ : Aside0 (Below w.heap.size w w64) := ⟨h9_⟩
                          clear HO281
                          clear HO289
                          clear BK276
                          clear BK282
                          clear BK290
                          clear HB
                          clear h0_ h1_ h2_ h3_ h4_ h5_ h6_ h7_ h8_ h9_
                          have HO281 := n0_
                          have HO289 := n1_
                          have HO297 := n2_
                          have HO302 := n3_
                          have HA_HO297 := n4_
                          have HA_HO302 := n5_
                          have BK276 := n6_
                          have BK282 := n7_
                          have BK290 := n8_
                          have HB := n9_
                          clear n0_ n1_ n2_ n3_ n4_ n5_ n6_ n7_ n8_ n9_
                          have hHeld : w64.cell? ⟨gb282, 0, none⟩ = some (.int .u8 (Int.tmod a2 5)) ∧ w64.cell? ⟨gb282, 1, none⟩ = some (.bool a3) ∧ w64.cell? ⟨gb282, 2, none⟩ = some (.bool a4) ∧ w64.cell? ⟨gb282, 3, none⟩ = some (.slice Ao37 t279.length co37) := hS_
                          obtain ⟨co65, eo65⟩ := HA_HO297.out
                          clear HA_HO297
                          subst eo65
                          obtain ⟨co66, eo66⟩ := HA_HO302.out
                          clear HA_HO302
                          subst eo66
                          refine norm_ (a' := ?_) ?_ ?_
                          rotate_left
                          · simp only [putAll, Act.put, List.setIfInBounds_toArray, List.set_cons_zero, List.set_cons_succ]
                            rfl
                          refine one_ (i := 26) (N := some 76) #[true, true, true, true, true, true, true, true, true, true, true, true, true, true, true, true, true, true, true, true, true, true, true, true, true, true, true, false, false, false, false] rfl rfl (one_of HT_.out (by kernel_rfl)) (by decide) (fun K hK => ?_)
                          (have p303 : 0 ≤ ((ji30) : Int) := of_decide_eq_true (by first | (with_reducible assumption) | assumption); have q303 : (ji30) < (y300.length : Int) := of_decide_eq_true (by first | (with_reducible assumption) | assumption); obtain ⟨ad303, e303, hx303_0⟩ := Kd.at_string (Kd.R_reads' HO302.out).2.2 (ji30) p303 q303; obtain rfl : adz_v301 = ad303 := (by injection e303))
                          refine value_ (w1 := ?_) (v := ?_) (by rfl) rfl ?_ ?_
                          rotate_left 2
                          · go_simp
                            constructor
                            · rfl
                            · rfl
                          clear hx303_0
                          refine hK.out _ _ ⟨(blk_cell BK282.out 0).trans rfl, (blk_cell BK282.out 1).trans rfl, (blk_cell BK282.out 2).trans rfl, (blk_cell BK282.out 3).trans rfl⟩ (fun hHeld => ?_)
                          clear hK K
                          refine norm_ (a' := ?_) ?_ ?_
                          rotate_left
                          · show Act.put _ (some 76) _ = _
                            simp only [Act.put, List.setIfInBounds_toArray, List.set_cons_zero, List.set_cons_succ, i64_w, i32_w]
                            rfl
                          exact norm_ (by first | (simp only [putAll, Act.put, List.setIfInBounds_toArray, List.set_cons_zero, List.set_cons_succ]; done) | (simp only [putAll, Act.put, List.setIfInBounds_toArray, List.set_cons_zero, List.set_cons_succ]; rfl)) (hJ16_20_21_22_26 (.slice (some adz_v296) y295.length co65, adz_v296, .slice (some adz_v301) y300.length co66, adz_v301) _ ⟨hHeld, (by (with_reducible repeat (first | apply Kd.R_alloc | apply Kd.R_drewN | apply Kd.R_drew)); exact HO281.out), (by (with_reducible repeat (first | apply Kd.R_alloc | apply Kd.R_drewN | apply Kd.R_drew)); exact HO289.out), (by (with_reducible repeat (first | apply Kd.R_alloc | apply Kd.R_drewN | apply Kd.R_drew)); exact HO297.out), (by (with_reducible repeat (first | apply Kd.R_alloc | apply Kd.R_drewN | apply Kd.R_drew)); exact HO302.out), ⟨_, rfl⟩, ⟨_, rfl⟩, (by (with_reducible repeat (first | refine blk_drewN ?_ _ | refine blk_drew ?_ | refine blk_alloc ?_ _)); exact BK276.out), (by (with_reducible repeat (first | refine blk_drewN ?_ _ | refine blk_drew ?_ | refine blk_alloc ?_ _)); exact BK282.out), (by (with_reducible repeat (first | refine blk_drewN ?_ _ | refine blk_drew ?_ | refine blk_alloc ?_ _)); exact BK290.out), (by repeat (first | (with_reducible first | exact HB.out | apply below_alloc | apply pw_below_drewN | apply below_drew1 | refine below_set ?_ GE276.out | refine below_set ?_ GE282.out | refine below_set ?_ GE290.out) | exact HB.out))⟩)
                      rintro ⟨v296, adz_v296, v301, adz_v301⟩ w64 ⟨hS_, h0_, h1_, h2_, h3_, h4_, h5_, h6_, h7_, h8_, h9_⟩
                      have n0_ : Aside0 (Kd.R (Kd.int .i32) 37 w64 w.heap.size (fun k_ => some k_ ≠ (.slice Ao50 t287.length co50 : Value).ownBlock) (.slice Ao37 t279.length co37) t279) := ⟨h0_⟩
                      have n1_ : Aside0 (Kd.R (Kd.int .i32) 37 w64 w.heap.size (fun k_ => some k_ ≠ (.slice Ao37 t279.length co37 : Value).ownBlock) (.slice Ao50 t287.length co50) t287) := ⟨h1_⟩
                      have n2_ : Aside0 (Kd.R Kd.string 9 w64 w.heap.size (fun k_ => some k_ ≠ (v301 : Value).ownBlock) v296 y295) := ⟨h2_⟩
                      have n3_ : Aside0 (Kd.R Kd.string 9 w64 w.heap.size (fun k_ => some k_ ≠ (v296 : Value).ownBlock) v301 y300) := ⟨h3_⟩
                      have n4_ : Aside0 (∃ c_, (v296 : Value) = .slice (some adz_v296) y295.length c_) := ⟨h4_⟩
                      have n5_ : Aside0 (∃ c_, (v301 : Value) = .slice (some adz_v301) y300.length c_) := ⟨h5_⟩
                      have n6_ : Aside0 (w64.heap[gb276]? = some (.cells #[.int .u8 a0_0, .bool a0_1, .bool a0_2, .slice Ao37 t279.length co37] 29 (0, 0))) := ⟨h6_⟩
                      have n7_ : Aside0 (w64.heap[gb282]? = some (.cells #[.int .u8 (Int.tmod a2 5), .bool a3, .bool a4, .slice Ao37 t279.length co37] 29 (0, 0))) := ⟨h7_⟩
                      have n8_ : Aside0 (w64.heap[gb290]? = some (.cells #[.int .u8 t284, .bool t285, .bool t286, .slice Ao50 t287.length co50] 29 (0, 0))) := ⟨h8_⟩
                      have n9_ : Aside0 (Below w.heap.size w w64) := ⟨h9_⟩
                      clear HO281
                      clear HO289
                      clear BK276
                      clear BK282
                      clear BK290
                      clear HB
                      clear h0_ h1_ h2_ h3_ h4_ h5_ h6_ h7_ h8_ h9_
                      have HO281 := n0_
                      have HO289 := n1_
                      have HO297 := n2_
                      have HO302 := n3_
                      have HA_HO297 := n4_
                      have HA_HO302 := n5_
                      have BK276 := n6_
                      have BK282 := n7_
                      have BK290 := n8_
                      have HB := n9_
                      clear n0_ n1_ n2_ n3_ n4_ n5_ n6_ n7_ n8_ n9_
                      have hHeld : w64.cell? ⟨gb282, 0, none⟩ = some (.int .u8 (Int.tmod a2 5)) ∧ w64.cell? ⟨gb282, 1, none⟩ = some (.bool a3) ∧ w64.cell? ⟨gb282, 2, none⟩ = some (.bool a4) ∧ w64.cell? ⟨gb282, 3, none⟩ = some (.slice Ao37 t279.length co37) := hS_
                      obtain ⟨co65, eo65⟩ := HA_HO297.out
                      clear HA_HO297
                      subst eo65
                      obtain ⟨co66, eo66⟩ := HA_HO302.out
                      clear HA_HO302
                      subst eo66
                      refine norm_ (a' := ?_) ?_ ?_
                      rotate_left
                      · simp only [putAll, Act.put, List.setIfInBounds_toArray, List.set_cons_zero, List.set_cons_succ]
                        rfl
                      refine one_ (i := 27) (N := some 77) #[true, true, true, true, true, true, true, true, true, true, true, true, true, true, true, true, true, true, true, true, true, true, true, true, true, true, true, true, false, false, false] rfl rfl (one_of HT_.out (by kernel_rfl)) (by decide) (fun K hK => ?_)
                      refine goes_ Tryd.func21 (by kernel_rfl) rfl #[.string (rdOf ByteArray.empty y300 (ji30))] (by rfl) rfl rfl (by (try simp only [List.map_toArray, List.map_cons, List.map_nil]); first | done | (simp only [hji30]; rfl) | rfl | (simp only [List.length_drop, List.length_take]; rfl)) ?_
                      with_reducible refine (redactorref04_Named.calls (rdOf ByteArray.empty y300 (ji30)) t304 _ A35.out).mono ?_
                      rintro e w' ⟨rfl, ⟨nd, rfl⟩⟩
                      refine ⟨_, rfl, ?_⟩
                      refine hK.out _ _ ⟨(blk_cell BK282.out 0).trans rfl, (blk_cell BK282.out 1).trans rfl, (blk_cell BK282.out 2).trans rfl, (blk_cell BK282.out 3).trans rfl⟩ (fun hHeld => ?_)
                      clear hK K
                      refine norm_ (a' := ?_) ?_ ?_
                      rotate_left
                      · show Act.put _ (some 77) _ = _
                        simp only [Act.put, List.setIfInBounds_toArray, List.set_cons_zero, List.set_cons_succ, i64_w, i32_w]
                        rfl
                      refine pure_ (i := 28) (N := some 78) (v := ?_) (a' := ?_) #[true, true, true, true, true, true, true, true, true, true, true, true, true, true, true, true, true, true, true, true, true, true, true, true, true, true, true, true, true, false, false] rfl rfl (any_of HT_.out (by kernel_rfl)) (fun _ _ _ h => h) (Or.inl ⟨by rfl, ?_⟩) ?_ ?_
                      rotate_left
                      · intro w'
                        go_simp
                        with_reducible rfl
                      rotate_left
                      · simp only [Act.put, List.setIfInBounds_toArray, List.set_cons_zero, List.set_cons_succ, i64_w, i32_w]
                        rfl
                      refine pure_ (i := 29) (N := some 79) (v := ?_) (a' := ?_) #[true, true, true, true, true, true, true, true, true, true, true, true, true, true, true, true, true, true, true, true, true, true, true, true, true, true, true, true, true, true, false] rfl rfl (any_of HT_.out (by kernel_rfl)) (fun _ _ _ h => h) (Or.inl ⟨by rfl, ?_⟩) ?_ ?_
                      rotate_left
                      · intro w'
                        go_simp
                        with_reducible rfl
                      rotate_left
                      · simp only [Act.put, List.setIfInBounds_toArray, List.set_cons_zero, List.set_cons_succ, i64_w, i32_w]
                        rfl
                      refine pure_ (i := 30) (N := some 12) (v := ?_) (a' := ?_) #[true, true, true, true, true, true, true, true, true, true, true, true, true, true, true, true, true, true, true, true, true, true, true, true, true, true, true, true, true, true, true] rfl rfl (any_of HT_.out (by kernel_rfl)) (fun _ _ _ h => h) (Or.inl ⟨by rfl, ?_⟩) ?_ ?_
                      rotate_left
                      · intro w'
                        go_simp
                        with_reducible rfl
                      rotate_left
                      · simp only [Act.put, List.setIfInBounds_toArray, List.set_cons_zero, List.set_cons_succ, i64_w, i32_w]
                        rfl
                      refine done_ (done_of HT_.out (by kernel_rfl)) ?_
                      try go_wp2
                      all_goals go_ret
                      all_goals exact ⟨by first | rfl | (simp [errW_none, errW_some] <;> rfl) | (simp only [← hji30]; first | rfl | (simp [errW_none, errW_some] <;> rfl)) | (simp [*, errW_none, errW_some] <;> rfl), by repeat (first | (with_reducible first | exact HB.out | apply below_alloc | apply pw_below_drewN | apply below_drew1 | refine below_set ?_ GE276.out | refine below_set ?_ GE282.out | refine below_set ?_ GE290.out) | exact HB.out)⟩
                    · rw [if_neg c34] at H
                      exact absurd H (by simp)
                  · rw [if_neg c32] at H
                    exact absurd H (by simp)
                · rw [if_neg c31] at H
                  exact absurd H (by simp)
              · rw [if_neg c29] at H
                have c29b0 : (t293 == t294) = false := beq_eq_false_iff_ne.mpr c29
                have c29b1 : (t293 != t294) = true := bne_iff_ne.mpr c29
                exact absurd (Option.some.inj H) (by rw [hrt.out]; decide)
            · replace c26 := Bool.eq_false_iff.mpr c26
              subst c26
              have H1 : (some false) = some r := by rw [if_neg (show ¬ (false = true) by decide)] at H; exact H
              clear H
              have H := H1
              clear H1
              exact absurd (Option.some.inj H) (by rw [hrt.out]; decide)
          · replace c24 := Bool.eq_false_iff.mpr c24
            subst c24
            have H1 : (some false) = some r := by rw [if_neg (show ¬ (false = true) by decide)] at H; exact H
            clear H
            have H := H1
            clear H1
            exact absurd (Option.some.inj H) (by rw [hrt.out]; decide)
        · replace c23 := Bool.eq_false_iff.mpr c23
          subst c23
          have H1 : (some false) = some r := by rw [if_neg (show ¬ (false = true) by decide)] at H; exact H
          clear H
          have H := H1
          clear H1
          exact absurd (Option.some.inj H) (by rw [hrt.out]; decide)

end Go.Proofs.YtcofbakhhcgbfaaDoor.PZ
