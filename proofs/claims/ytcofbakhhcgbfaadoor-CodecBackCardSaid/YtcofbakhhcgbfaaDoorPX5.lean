/- Functions of the program told as plain functions, and that each call comes to what its function says. Conditions: each contract names its own. (Written by xprint.py, a program of this session, by way of the print of the kit; not trusted: Lean checks it.) -/
import Derived.Test.YtcofbakhhcgbfaaDoorPX0
import Derived.Test.YtcofbakhhcgbfaaDoorPX1
import Derived.Test.YtcofbakhhcgbfaaDoorPX4
import Derived.Test.YtcofbakhhcgbfaaDoorExtDecodeC
import Derived.Test.YtcofbakhhcgbfaaDoorExtEncodeC
import Derived.Test.YtcofbakhhcgbfaaDoorExtGl
namespace Go.Proofs.YtcofbakhhcgbfaaDoor.PX
open Go.RowKit Go.Proofs.YtcofbakhhcgbfaaDoorW.PrintWords Go.Proofs.YtcofbakhhcgbfaaDoorW.PrintLast Go.Proofs.YtcofbakhhcgbfaaDoorW.PrintMore
attribute [local go_sem] max2_int min2_int max_two min_two max_three min_three max_four min_four   -- for this text's walks alone
set_option linter.unusedVariables false
set_option linter.unusedSimpArgs false

/-! ### redactorlaw04_CodecBack: function 4 -/
def redactorlaw04_CodecBack.j0 : Nat → List Int → List Int → Int → Int → Bool → Option (Bool)
  | 0, _, _, _, _, _ => none
  | k + 1, x0, x1, x2, x3, x24 => if x24 = true then ((redactorlaw04_known.f k).bind fun t294 => (some t294)) else ((codec_Decode.f k ((1 + (Int.tmod x3 3)) % 256) x0).bind fun bt295 => ((codec_Encode.f k bt295.1 bt295.2.1 bt295.2.2.1 bt295.2.2.2.1).bind fun bt303 => ((redactorlaw04_Bytes.f k x1 x2).bind fun t307 => ((codec_Decode.f k ((1 + (Int.tmod x3 3)) % 256) t307).bind fun bt310 => ((codec_Encode.f k bt310.1 bt310.2.1 bt310.2.2.1 bt310.2.2.2.1).bind fun bt318 => (if bt295.2.2.2.2 = 0 then (if bt303.2 = 0 then (if bt310.2.2.2.2 = 0 then (if bt318.2 = 0 then (if (strOfNums bt303.1).toList = (strOfNums x0).toList then ((redactorlaw04_Bytes.f k x1 x2).bind fun t322 => (some ((strOfNums bt318.1).toList == (strOfNums t322).toList))) else (some false)) else (some false)) else (some false)) else (some false)) else (some false)))))))
def redactorlaw04_CodecBack.f (k : Nat) (l0 : List Int) (l1 : List Int) (a2 : Int) (a3 : Int) : Option (Bool) := if (l0.length : Int) > 300 then (redactorlaw04_CodecBack.j0 k l0 l1 a2 a3 true) else ((redactorlaw04_known.f k).bind fun t293 => (redactorlaw04_CodecBack.j0 k l0 l1 a2 a3 (!t293)))
theorem redactorlaw04_CodecBack.mono_l : ∀ k, (∀ y0 y1 y2 y3 y4, LeO (redactorlaw04_CodecBack.j0 k y0 y1 y2 y3 y4) (redactorlaw04_CodecBack.j0 (k + 1) y0 y1 y2 y3 y4))
  | 0 => fun _ _ _ _ _ r h => by simp [redactorlaw04_CodecBack.j0] at h
  | k + 1 => by
    have ih0 := redactorlaw04_CodecBack.mono_l k
    · intro y0 y1 y2 y3 y4
      unfold redactorlaw04_CodecBack.j0
      repeat' first
      | (with_reducible exact ih0 _ _ _ _ _)
      | (with_reducible exact codec_Decode.mono _ _ _)
      | (with_reducible exact codec_Encode.mono _ _ _ _ _)
      | (with_reducible exact redactorlaw04_Bytes.mono _ _ _)
      | (with_reducible exact redactorlaw04_known.mono _)
      | (with_reducible exact LeO.refl _)
      | (with_reducible exact LeO.none _)
      | (with_reducible refine LeO.ite ?_ ?_)
      | (with_reducible refine LeO.bind ?_ (fun _ => ?_))
      | exact ih0 _ _ _ _ _
      | exact codec_Decode.mono _ _ _
      | exact codec_Encode.mono _ _ _ _ _
      | exact redactorlaw04_Bytes.mono _ _ _
      | exact redactorlaw04_known.mono _
      | exact LeO.none _
      | refine LeO.ite ?_ ?_
      | refine LeO.bind ?_ (fun _ => ?_)
theorem redactorlaw04_CodecBack.mono : ∀ a0 a1 a2 a3 k, LeO (redactorlaw04_CodecBack.f k a0 a1 a2 a3) (redactorlaw04_CodecBack.f (k + 1) a0 a1 a2 a3) := by
  intro a0 a1 a2 a3 k
  have ih0 := redactorlaw04_CodecBack.mono_l k
  unfold redactorlaw04_CodecBack.f
  repeat' first
      | (with_reducible exact ih0 _ _ _ _ _)
      | (with_reducible exact codec_Decode.mono _ _ _)
      | (with_reducible exact codec_Encode.mono _ _ _ _ _)
      | (with_reducible exact redactorlaw04_Bytes.mono _ _ _)
      | (with_reducible exact redactorlaw04_known.mono _)
      | (with_reducible exact LeO.refl _)
      | (with_reducible exact LeO.none _)
      | (with_reducible refine LeO.ite ?_ ?_)
      | (with_reducible refine LeO.bind ?_ (fun _ => ?_))
      | exact ih0 _ _ _ _ _
      | exact codec_Decode.mono _ _ _
      | exact codec_Encode.mono _ _ _ _ _
      | exact redactorlaw04_Bytes.mono _ _ _
      | exact redactorlaw04_known.mono _
      | exact LeO.none _
      | refine LeO.ite ?_ ?_
      | refine LeO.bind ?_ (fun _ => ?_)
def redactorlaw04_CodecBack.T8 : Bool × List (List Nat × List Nat) := (true, [([], []), ([0], [0]), ([1], [1]), ([2], [2]), ([3, 2], [2, 3]), ([2, 4], [2, 4]), ([5, 2], [5]), ([6], [6]), ([7, 6], [6, 7]), ([6, 8], [6, 8]), ([9, 6], [9]), ([10], [10]), ([11, 10], [10, 11]), ([10, 12], [10, 12]), ([13, 10], [13]), ([14], [14]), ([15, 14], [14, 15]), ([14], [14]), ([17, 14], [14, 17]), ([16, 18, 14], [14, 16, 18]), ([14, 19], [14, 19]), ([20, 14], [20]), ([21], [21]), ([22, 21], [21, 22]), ([21], [21]), ([21], [21]), ([24, 25, 21, 21], [21, 24, 25]), ([26, 21], [21, 26]), ([23, 27, 21], [21, 23, 27]), ([21, 28], [21, 28]), ([29, 26, 0, 1, 2, 3, 4, 5, 6, 7, 8, 9, 10, 11, 12, 13, 14, 15, 16, 17, 18, 19, 20, 21, 22, 23, 24, 25, 26, 27, 28, 29], [29])])
def redactorlaw04_CodecBack.B8 : List Nat := [0, 1, 3, 7, 15, 31, 63, 127, 255, 511, 1023, 2047, 4095, 8191, 16383, 32767, 65535, 32767, 163839, 524287, 1048575, 2097151, 4194303, 8388607, 4194303, 4194303, 54525951, 121634815, 268435455, 536870911, 1073741823]
theorem redactorlaw04_CodecBack.tab8 : rtab .any (opsOf Tryd.f4 8) = redactorlaw04_CodecBack.T8 := by kernel_rfl
theorem redactorlaw04_CodecBack.bits8 : waitsOk redactorlaw04_CodecBack.T8.2 redactorlaw04_CodecBack.B8 = true := by kernel_rfl
set_option maxHeartbeats 8000000 in
set_option maxRecDepth 100000 in
theorem redactorlaw04_CodecBack.calls (k : Nat) (A0 : Option Addr) (c0 : Nat) (l0 : List Int) (A1 : Option Addr) (c1 : Nat) (l1 : List Int) (a2 : Int) (a3 : Int) (r : Bool) (w : World) (hr0 : Kd.C (Kd.int .u8) w A0 l0.length l0) (hc0 : l0.length ≤ c0) (hr1 : Kd.C (Kd.int .u8) w A1 l1.length l1) (hc1 : l1.length ≤ c1) (hGL : (Lib.Utf8Tabs 0 1) w) (hrt : Aside0 (r = true)) (h : redactorlaw04_CodecBack.f k l0 l1 a2 a3 = some r) :
    Calls Tryd.prog 4 #[.slice A0 l0.length c0, .slice A1 l1.length c1, .int .u8 a2, .int .u8 a3] w fun e w' => e = .returned (.bool r) ∧ Below w.heap.size w w' := by
  have hu29 := Tryd.underlying29
  have HR0 := Aside0.mk hr0
  have HC0 := Aside0.mk hc0
  clear hr0 hc0
  have HR1 := Aside0.mk hr1
  have HC1 := Aside0.mk hc1
  clear hr1 hc1
  have HB := Aside0.mk (Below.refl w.heap.size w)
  have HGL := Aside0.mk hGL
  clear hGL
  have H : (if (l0.length : Int) > 300 then (redactorlaw04_CodecBack.j0 k l0 l1 a2 a3 true) else ((redactorlaw04_known.f k).bind fun t293 => (redactorlaw04_CodecBack.j0 k l0 l1 a2 a3 (!t293)))) = some r := h
  clear h
  have HC5 := Aside0.mk H
  clear H
  go_enter Tryd.func4, Tryd.ntmps4
  go_upto_region 1 with (fail)
  go_cut [24] (fun v24 wc => ∃ (kq : Nat) (x24_4 : Bool), v24 = .bool x24_4 ∧ Aside0 (redactorlaw04_CodecBack.j0 kq l0 l1 a2 a3 x24_4 = some r) ∧ Aside0 (kq ≤ k) ∧ Aside0 (Below w.heap.size w wc))
  case first =>
    have H := HC5.out
    clear HC5
    by_cases c6 : (l0.length : Int) > 300
    · rw [if_pos c6] at H
      have c6b0 : decide (300 < (l0.length : Int)) = true := decide_eq_true c6
      have c6b1 : decide (300 < l0.length) = true := decide_eq_true (by omega)
      clear c6
      (first | rw [c6b0] | (simp only [i64_w, i32_w]; rw [c6b0]) | skip)
      have H' := Aside0.mk H
      clear H
      go_wp2
      go_meet
      case rel => exact ⟨_, (true), (by first | rfl | (simp; done) | (simp [*]; done)), H', ⟨by first | omega | exact Nat.le_refl _⟩, ⟨by repeat (first | (with_reducible first | exact HB.out | apply below_alloc | apply pw_below_drewN | apply below_drew1) | exact HB.out)⟩⟩
    · rw [if_neg c6] at H
      have c6b0 : decide (300 < (l0.length : Int)) = false := decide_eq_false c6
      have c6b1 : decide (300 < l0.length) = false := decide_eq_false (by omega)
      clear c6
      (first | rw [c6b0] | (simp only [i64_w, i32_w]; rw [c6b0]) | skip)
      replace H := Option.bind_eq_some_iff.mp H
      obtain ⟨t293, A70, H⟩ := H
      replace H : (redactorlaw04_CodecBack.j0 k l0 l1 a2 a3 (!t293)) = some r := H
      have A7 := Aside0.mk A70
      clear A70
      have H' := Aside0.mk H
      clear H
      go_wp2_with (first | (go_at_call 9; (with_reducible refine (redactorlaw04_known.calls k  t293 _ ?side1 A7.out).mono ?_); (case side1 => refine gl_below HGL.out ?_; repeat (first | (with_reducible first | exact HB.out | apply below_alloc | apply pw_below_drewN | apply below_drew1) | exact HB.out)); rintro e w8 ⟨rfl, hb⟩; have n0_ := Aside0.mk (below_step (by repeat (first | (with_reducible first | exact HB.out | apply below_alloc | apply pw_below_drewN | apply below_drew1) | exact HB.out)) hb); clear HB; have HB := n0_; clear n0_; (try clear hb); (try clear hb2); (try clear hk); (try clear hi); (try clear A7)))
      go_meet
      case rel => exact ⟨_, (!t293), (by first | rfl | (simp; done) | (simp [*]; done)), H', ⟨by first | omega | exact Nat.le_refl _⟩, ⟨by repeat (first | (with_reducible first | exact HB.out | apply below_alloc | apply pw_below_drewN | apply below_drew1) | exact HB.out)⟩⟩
  case rest =>
    clear HC5
    try clear c1
    try clear p2
    try clear c4
    try clear c6
    try clear c6b0
    try clear c6b1
    obtain ⟨kq, x24_4, rfl, HA, HJ4, HB⟩ := hcut
    cases kq with
    | zero => exact absurd HA.out (by simp [redactorlaw04_CodecBack.j0])
    | succ kj4 =>
      have H := HA.out
      clear HA
      simp only [redactorlaw04_CodecBack.j0] at H
      by_cases c9 : x24_4 = true
      · subst c9
        have H1 : ((redactorlaw04_known.f kj4).bind fun t294 => (some t294)) = some r := by rw [if_pos rfl] at H; exact H
        clear H
        have H := H1
        clear H1
        replace H := Option.bind_eq_some_iff.mp H
        obtain ⟨t294, A100, H⟩ := H
        replace H : (some t294) = some r := H
        have A10 := Aside0.mk A100
        clear A100
        obtain rfl := Option.some.inj H
        go_wp2_with (first | ((with_reducible refine gate_callee (f := 9) rfl ?_); refine goesL_ (some 25) rfl rfl Tryd.func9 (by kernel_rfl) rfl #[] rfl (by (try simp only [List.map_toArray, List.map_cons, List.map_nil]); first | done | rfl | (simp only [List.length_drop, List.length_take]; rfl)) ?_; (with_reducible refine (redactorlaw04_known.calls kj4  t294 _ ?side1 A10.out).mono ?_); (case side1 => refine gl_below HGL.out ?_; repeat (first | (with_reducible first | exact HB.out | apply below_alloc | apply pw_below_drewN | apply below_drew1) | exact HB.out)); rintro e w11 ⟨rfl, hb⟩; refine ⟨_, rfl, ?_⟩; have n0_ := Aside0.mk (below_step (by repeat (first | (with_reducible first | exact HB.out | apply below_alloc | apply pw_below_drewN | apply below_drew1) | exact HB.out)) hb); clear HB; have HB := n0_; clear n0_; (try clear hb); (try clear hb2); (try clear hk); (try clear hi)))
        all_goals go_ret
        all_goals exact ⟨by first | rfl | (simp [errW_none, errW_some] <;> rfl) | (simp [*, errW_none, errW_some] <;> rfl), by repeat (first | (with_reducible first | exact HB.out | apply below_alloc | apply pw_below_drewN | apply below_drew1) | exact HB.out)⟩
      · replace c9 := Bool.eq_false_iff.mpr c9
        subst c9
        have H1 : ((codec_Decode.f kj4 ((1 + (Int.tmod a3 3)) % 256) l0).bind fun bt295 => ((codec_Encode.f kj4 bt295.1 bt295.2.1 bt295.2.2.1 bt295.2.2.2.1).bind fun bt303 => ((redactorlaw04_Bytes.f kj4 l1 a2).bind fun t307 => ((codec_Decode.f kj4 ((1 + (Int.tmod a3 3)) % 256) t307).bind fun bt310 => ((codec_Encode.f kj4 bt310.1 bt310.2.1 bt310.2.2.1 bt310.2.2.2.1).bind fun bt318 => (if bt295.2.2.2.2 = 0 then (if bt303.2 = 0 then (if bt310.2.2.2.2 = 0 then (if bt318.2 = 0 then (if (strOfNums bt303.1).toList = (strOfNums l0).toList then ((redactorlaw04_Bytes.f kj4 l1 a2).bind fun t322 => (some ((strOfNums bt318.1).toList == (strOfNums t322).toList))) else (some false)) else (some false)) else (some false)) else (some false)) else (some false))))))) = some r := by rw [if_neg (show ¬ (false = true) by decide)] at H; exact H
        clear H
        have H := H1
        clear H1
        replace H := Option.bind_eq_some_iff.mp H
        obtain ⟨⟨t295, t296, t297, t298, t301⟩, A120, H⟩ := H
        replace H : ((codec_Encode.f kj4 t295 t296 t297 t298).bind fun bt303 => ((redactorlaw04_Bytes.f kj4 l1 a2).bind fun t307 => ((codec_Decode.f kj4 ((1 + (Int.tmod a3 3)) % 256) t307).bind fun bt310 => ((codec_Encode.f kj4 bt310.1 bt310.2.1 bt310.2.2.1 bt310.2.2.2.1).bind fun bt318 => (if t301 = 0 then (if bt303.2 = 0 then (if bt310.2.2.2.2 = 0 then (if bt318.2 = 0 then (if (strOfNums bt303.1).toList = (strOfNums l0).toList then ((redactorlaw04_Bytes.f kj4 l1 a2).bind fun t322 => (some ((strOfNums bt318.1).toList == (strOfNums t322).toList))) else (some false)) else (some false)) else (some false)) else (some false)) else (some false)))))) = some r := H
        have A12 := Aside0.mk A120
        clear A120
        replace H := Option.bind_eq_some_iff.mp H
        obtain ⟨⟨t303, t306⟩, A130, H⟩ := H
        replace H : ((redactorlaw04_Bytes.f kj4 l1 a2).bind fun t307 => ((codec_Decode.f kj4 ((1 + (Int.tmod a3 3)) % 256) t307).bind fun bt310 => ((codec_Encode.f kj4 bt310.1 bt310.2.1 bt310.2.2.1 bt310.2.2.2.1).bind fun bt318 => (if t301 = 0 then (if t306 = 0 then (if bt310.2.2.2.2 = 0 then (if bt318.2 = 0 then (if (strOfNums t303).toList = (strOfNums l0).toList then ((redactorlaw04_Bytes.f kj4 l1 a2).bind fun t322 => (some ((strOfNums bt318.1).toList == (strOfNums t322).toList))) else (some false)) else (some false)) else (some false)) else (some false)) else (some false))))) = some r := H
        have A13 := Aside0.mk A130
        clear A130
        replace H := Option.bind_eq_some_iff.mp H
        obtain ⟨t307, A140, H⟩ := H
        replace H : ((codec_Decode.f kj4 ((1 + (Int.tmod a3 3)) % 256) t307).bind fun bt310 => ((codec_Encode.f kj4 bt310.1 bt310.2.1 bt310.2.2.1 bt310.2.2.2.1).bind fun bt318 => (if t301 = 0 then (if t306 = 0 then (if bt310.2.2.2.2 = 0 then (if bt318.2 = 0 then (if (strOfNums t303).toList = (strOfNums l0).toList then ((redactorlaw04_Bytes.f kj4 l1 a2).bind fun t322 => (some ((strOfNums bt318.1).toList == (strOfNums t322).toList))) else (some false)) else (some false)) else (some false)) else (some false)) else (some false)))) = some r := H
        have A14 := Aside0.mk A140
        clear A140
        replace H := Option.bind_eq_some_iff.mp H
        obtain ⟨⟨t310, t311, t312, t313, t316⟩, A150, H⟩ := H
        replace H : ((codec_Encode.f kj4 t310 t311 t312 t313).bind fun bt318 => (if t301 = 0 then (if t306 = 0 then (if t316 = 0 then (if bt318.2 = 0 then (if (strOfNums t303).toList = (strOfNums l0).toList then ((redactorlaw04_Bytes.f kj4 l1 a2).bind fun t322 => (some ((strOfNums bt318.1).toList == (strOfNums t322).toList))) else (some false)) else (some false)) else (some false)) else (some false)) else (some false))) = some r := H
        have A15 := Aside0.mk A150
        clear A150
        replace H := Option.bind_eq_some_iff.mp H
        obtain ⟨⟨t318, t321⟩, A160, H⟩ := H
        replace H : (if t301 = 0 then (if t306 = 0 then (if t316 = 0 then (if t321 = 0 then (if (strOfNums t303).toList = (strOfNums l0).toList then ((redactorlaw04_Bytes.f kj4 l1 a2).bind fun t322 => (some ((strOfNums t318).toList == (strOfNums t322).toList))) else (some false)) else (some false)) else (some false)) else (some false)) else (some false)) = some r := H
        have A16 := Aside0.mk A160
        clear A160
        by_cases c17 : t301 = 0
        · rw [if_pos c17] at H
          have c17b0 : (t301 == 0) = true := beq_iff_eq.mpr c17
          have c17b1 : (t301 != 0) = false := bne_eq_false_iff_eq.mpr c17
          clear c17
          by_cases c18 : t306 = 0
          · rw [if_pos c18] at H
            have c18b0 : (t306 == 0) = true := beq_iff_eq.mpr c18
            have c18b1 : (t306 != 0) = false := bne_eq_false_iff_eq.mpr c18
            clear c18
            by_cases c19 : t316 = 0
            · rw [if_pos c19] at H
              have c19b0 : (t316 == 0) = true := beq_iff_eq.mpr c19
              have c19b1 : (t316 != 0) = false := bne_eq_false_iff_eq.mpr c19
              clear c19
              by_cases c20 : t321 = 0
              · rw [if_pos c20] at H
                have c20b0 : (t321 == 0) = true := beq_iff_eq.mpr c20
                have c20b1 : (t321 != 0) = false := bne_eq_false_iff_eq.mpr c20
                clear c20
                by_cases c21 : (strOfNums t303).toList = (strOfNums l0).toList
                · rw [if_pos c21] at H
                  have c21b0 : ((strOfNums t303).toList == (strOfNums l0).toList) = true := beq_iff_eq.mpr c21
                  have c21b1 : ((strOfNums t303).toList != (strOfNums l0).toList) = false := bne_eq_false_iff_eq.mpr c21
                  clear c21
                  replace H := Option.bind_eq_some_iff.mp H
                  obtain ⟨t322, A220, H⟩ := H
                  replace H : (some ((strOfNums t318).toList == (strOfNums t322).toList)) = some r := H
                  have A22 := Aside0.mk A220
                  clear A220
                  obtain rfl := Option.some.inj H
                  try go_wp2_with (first | ((with_reducible refine gate_callee (f := 12) rfl ?_); refine goesL_ (some 32) rfl rfl Tryd.func12 (by kernel_rfl) rfl #[.int .u8 ((1 + (Int.tmod a3 3)) % 256), .slice A0 l0.length c0] rfl (by (try simp only [List.map_toArray, List.map_cons, List.map_nil]); first | done | rfl | (simp only [List.length_drop, List.length_take]; rfl)) ?_; (with_reducible refine (codec_Decode.calls kj4 ((1 + (Int.tmod a3 3)) % 256) _ _ l0 t295 t296 t297 t298 t301 _ ?side1 ?side2 ?side3 A12.out).mono ?_); (case side1 => repeat (first | exact (Kd.C_below HR0.out HB.out) | (with_reducible refine Kd.C_alloc ?_ _) | (with_reducible refine Kd.C_drewN ?_ _) | (with_reducible refine Kd.C_drew ?_))); (case side2 => exact HC0.out); (case side3 => refine gl_below HGL.out ?_; repeat (first | (with_reducible first | exact HB.out | apply below_alloc | apply pw_below_drewN | apply below_drew1) | exact HB.out)); rintro e w23 ⟨v299, rfl, ho0, hb⟩; refine ⟨_, rfl, ?_⟩; have n0_ := Aside0.mk (Kd.R_lower ho0 (below_size (by repeat (first | (with_reducible first | exact HB.out | apply below_alloc | apply pw_below_drewN | apply below_drew1) | exact HB.out)))); have n1_ := Aside0.mk (below_step (by repeat (first | (with_reducible first | exact HB.out | apply below_alloc | apply pw_below_drewN | apply below_drew1) | exact HB.out)) hb); clear HB; have HO300 := n0_; have HB := n1_; clear n0_ n1_; (try clear hb); (try clear hb2); (try clear hk); (try clear hi); (try clear ho0)) | ((with_reducible refine gate_dst (N := 10) rfl ?_); refine box_event ?hg (N := 10) ?hd (cs := #[.int .u8 0, .bool false, .bool false, .slice none 0 0]) (t := 29) ?hr ?_; (case hd => rfl); (case hg => rfl); (case hr => first | (go_simp; done) | (go_simp; rfl)); intro gb302 hg w24 hbox hb; have n0_ := Aside0.mk (Kd.R_below (by (with_reducible repeat (first | apply Kd.R_alloc | apply Kd.R_drewN | apply Kd.R_drew)); exact HO300.out) hb); have n1_ := Aside0.mk (below_step (by repeat (first | (with_reducible first | exact HB.out | apply below_alloc | apply pw_below_drewN | apply below_drew1) | exact HB.out)) hb); have n2_ := Aside0.mk (hbox); have n3_ := Aside0.mk ((by rw [hg]; exact (below_size (by repeat (first | (with_reducible first | exact HB.out | apply below_alloc | apply pw_below_drewN | apply below_drew1) | exact HB.out))) : w.heap.size ≤ gb302)); have n4_ := Aside0.mk ((by rw [hg]; exact (below_size (by repeat (first | (with_reducible first | exact HB.out | apply below_alloc | apply pw_below_drewN | apply below_drew1) | exact HB.out))) : w.heap.size ≤ gb302)); clear HO300; clear HB; have HO300 := n0_; have HB := n1_; have BK302 := n2_; have GW302 := n3_; have GE302 := n4_; clear n0_ n1_ n2_ n3_ n4_; clear hb hbox hg; have hcz25_0 : w24.cell? ⟨gb302, 0, none⟩ = some (.int .u8 0) := (blk_cell BK302.out 0).trans rfl; have hcz25_1 : w24.cell? ⟨gb302, 1, none⟩ = some (.bool false) := (blk_cell BK302.out 1).trans rfl; have hcz25_2 : w24.cell? ⟨gb302, 2, none⟩ = some (.bool false) := (blk_cell BK302.out 2).trans rfl; have hcz25_3 : w24.cell? ⟨gb302, 3, none⟩ = some (.slice none 0 0) := (blk_cell BK302.out 3).trans rfl; have hfz25_0 := blk_frozen BK302.out 0; have hfz25_1 := blk_frozen BK302.out 1; have hfz25_2 := blk_frozen BK302.out 2; have hfz25_3 := blk_frozen BK302.out 3; obtain ⟨Ao26, co26, eo26⟩ := Kd.R_slice HO300.out; subst eo26) | ((with_reducible refine gate_callee (f := 13) rfl ?_); refine goesL_ (some 37) rfl rfl Tryd.func13 (by kernel_rfl) rfl #[.agg #[.int .u8 t295, .bool t296, .bool t297, .slice Ao26 t298.length co26]] rfl (by (try simp only [List.map_toArray, List.map_cons, List.map_nil]); first | done | rfl | (simp only [List.length_drop, List.length_take]; rfl)) ?_; (with_reducible refine (codec_Encode.calls kj4 t295 t296 t297 _ _ t298 t303 t306 _ ?side1 ?side2 A13.out).mono ?_); (case side1 => refine (Kd.R_reads' (e := 37) (base := w.heap.size) (ok := fun k_ => True) (n := t298.length) (c := co26) ?_).2.2; exact (by (with_reducible repeat (first | apply Kd.R_alloc | apply Kd.R_drewN | apply Kd.R_drew)); exact (Kd.R_mono (Kd.R_far (p := ⟨gb302, 3, none⟩) (Kd.R_far (p := ⟨gb302, 2, none⟩) (Kd.R_far (p := ⟨gb302, 1, none⟩) (Kd.R_far (p := ⟨gb302, 0, none⟩) (Kd.R_types HO300.out BK302.out (by decide)) (fun _ hk => hk.2) (.int .u8 t295)) (fun _ hk => hk.2) (.bool t296)) (fun _ hk => hk.2) (.bool t297)) (fun _ hk => hk.2) (.slice Ao26 t298.length co26)) (fun _ h_ => h_.1)))); (case side2 => exact (Kd.R_reads' HO300.out).2.1); rintro e w27 ⟨v304, rfl, ho0, hb⟩; refine ⟨_, rfl, ?_⟩; have n0_ := Aside0.mk (Kd.R_below (by (with_reducible repeat (first | apply Kd.R_alloc | apply Kd.R_drewN | apply Kd.R_drew)); exact (Kd.R_mono (Kd.R_far (p := ⟨gb302, 3, none⟩) (Kd.R_far (p := ⟨gb302, 2, none⟩) (Kd.R_far (p := ⟨gb302, 1, none⟩) (Kd.R_far (p := ⟨gb302, 0, none⟩) (Kd.R_types HO300.out BK302.out (by decide)) (fun _ hk => hk.2) (.int .u8 t295)) (fun _ hk => hk.2) (.bool t296)) (fun _ hk => hk.2) (.bool t297)) (fun _ hk => hk.2) (.slice Ao26 t298.length co26)) (fun _ h_ => h_.1))) hb); have n1_ := Aside0.mk (Kd.R_lower ho0 (below_size (by repeat (first | (with_reducible first | exact HB.out | apply below_alloc | apply pw_below_drewN | apply below_drew1 | refine below_set ?_ GE302.out) | exact HB.out)))); have n2_ := Aside0.mk (blk_below (g := gb302) (o := .cells #[.int .u8 t295, .bool t296, .bool t297, .slice Ao26 t298.length co26] 29 (0, 0)) (by (with_reducible repeat (first | refine blk_drewN ?_ _ | refine blk_drew ?_ | refine blk_alloc ?_ _)); refine blk_put (cs := #[.int .u8 t295, .bool t296, .bool t297, .slice none 0 0]) ?_ 3 _ rfl; (with_reducible repeat (first | refine blk_drewN ?_ _ | refine blk_drew ?_ | refine blk_alloc ?_ _)); refine blk_put (cs := #[.int .u8 t295, .bool t296, .bool false, .slice none 0 0]) ?_ 2 _ rfl; (with_reducible repeat (first | refine blk_drewN ?_ _ | refine blk_drew ?_ | refine blk_alloc ?_ _)); refine blk_put (cs := #[.int .u8 t295, .bool false, .bool false, .slice none 0 0]) ?_ 1 _ rfl; (with_reducible repeat (first | refine blk_drewN ?_ _ | refine blk_drew ?_ | refine blk_alloc ?_ _)); refine blk_put (cs := #[.int .u8 0, .bool false, .bool false, .slice none 0 0]) ?_ 0 _ rfl; (with_reducible repeat (first | refine blk_drewN ?_ _ | refine blk_drew ?_ | refine blk_alloc ?_ _)); exact BK302.out) hb); have n3_ := Aside0.mk (below_step (by repeat (first | (with_reducible first | exact HB.out | apply below_alloc | apply pw_below_drewN | apply below_drew1 | refine below_set ?_ GE302.out) | exact HB.out)) hb); clear HO300; clear BK302; clear HB; have HO300 := n0_; have HO305 := n1_; have BK302 := n2_; have HB := n3_; clear n0_ n1_ n2_ n3_; (try clear hb); (try clear hb2); (try clear hk); (try clear hi); (try clear ho0)) | ((with_reducible refine gate_callee (f := 11) rfl ?_); refine goesL_ (some 44) rfl rfl Tryd.func11 (by kernel_rfl) rfl #[.slice A1 l1.length c1, .int .u8 a2] rfl (by (try simp only [List.map_toArray, List.map_cons, List.map_nil]); first | done | rfl | (simp only [List.length_drop, List.length_take]; rfl)) ?_; (with_reducible refine (redactorlaw04_Bytes.calls kj4 _ _ l1 a2 t307 _ ?side1 ?side2 A14.out).mono ?_); (case side1 => repeat (first | exact (Kd.C_below HR1.out HB.out) | (with_reducible refine Kd.C_alloc ?_ _) | (with_reducible refine Kd.C_drewN ?_ _) | (with_reducible refine Kd.C_drew ?_))); (case side2 => exact HC1.out); rintro e w28 ⟨v308, rfl, ho0, hb⟩; refine ⟨_, rfl, ?_⟩; have n0_ := Aside0.mk (Kd.R_below (by (with_reducible repeat (first | apply Kd.R_alloc | apply Kd.R_drewN | apply Kd.R_drew)); exact HO300.out) hb); have n1_ := Aside0.mk (Kd.R_elder' (by (with_reducible repeat (first | apply Kd.R_alloc | apply Kd.R_drewN | apply Kd.R_drew)); exact HO305.out) (Kd.R_base ho0) hb); have n2_ := Aside0.mk (Kd.R_lower (Kd.R_new' ho0 (Kd.R_lt (by (with_reducible repeat (first | apply Kd.R_alloc | apply Kd.R_drewN | apply Kd.R_drew)); exact HO305.out))) (below_size (by repeat (first | (with_reducible first | exact HB.out | apply below_alloc | apply pw_below_drewN | apply below_drew1 | refine below_set ?_ GE302.out) | exact HB.out)))); have n3_ := Aside0.mk (blk_below (g := gb302) (o := .cells #[.int .u8 t295, .bool t296, .bool t297, .slice Ao26 t298.length co26] 29 (0, 0)) (by (with_reducible repeat (first | refine blk_drewN ?_ _ | refine blk_drew ?_ | refine blk_alloc ?_ _)); exact BK302.out) hb); have n4_ := Aside0.mk (below_step (by repeat (first | (with_reducible first | exact HB.out | apply below_alloc | apply pw_below_drewN | apply below_drew1 | refine below_set ?_ GE302.out) | exact HB.out)) hb); clear HO300; clear HO305; clear BK302; clear HB; have HO300 := n0_; have HO305 := n1_; have HO309 := n2_; have BK302 := n3_; have HB := n4_; clear n0_ n1_ n2_ n3_ n4_; (try clear hb); (try clear hb2); (try clear hk); (try clear hi); (try clear ho0); obtain ⟨Ao29, co29, eo29⟩ := Kd.R_slice HO309.out; subst eo29) | ((with_reducible refine gate_callee (f := 12) rfl ?_); refine goesL_ (some 45) rfl rfl Tryd.func12 (by kernel_rfl) rfl #[.int .u8 ((1 + (Int.tmod a3 3)) % 256), .slice Ao29 t307.length co29] rfl (by (try simp only [List.map_toArray, List.map_cons, List.map_nil]); first | done | rfl | (simp only [List.length_drop, List.length_take]; rfl)) ?_; (with_reducible refine (codec_Decode.calls kj4 ((1 + (Int.tmod a3 3)) % 256) _ _ t307 t310 t311 t312 t313 t316 _ ?side1 ?side2 ?side3 A15.out).mono ?_); (case side1 => repeat (first | exact (Kd.R_reads' HO309.out).2.2 | (with_reducible refine Kd.C_alloc ?_ _) | (with_reducible refine Kd.C_drewN ?_ _) | (with_reducible refine Kd.C_drew ?_))); (case side2 => exact (Kd.R_reads' HO309.out).2.1); (case side3 => refine gl_below HGL.out ?_; repeat (first | (with_reducible first | exact HB.out | apply below_alloc | apply pw_below_drewN | apply below_drew1 | refine below_set ?_ GE302.out) | exact HB.out)); rintro e w30 ⟨v314, rfl, ho0, hb⟩; refine ⟨_, rfl, ?_⟩; have n0_ := Aside0.mk (Kd.R_elder' (by (with_reducible repeat (first | apply Kd.R_alloc | apply Kd.R_drewN | apply Kd.R_drew)); exact HO300.out) (Kd.R_base ho0) hb); have n1_ := Aside0.mk (Kd.R_below (by (with_reducible repeat (first | apply Kd.R_alloc | apply Kd.R_drewN | apply Kd.R_drew)); exact HO305.out) hb); have n2_ := Aside0.mk (Kd.R_below (by (with_reducible repeat (first | apply Kd.R_alloc | apply Kd.R_drewN | apply Kd.R_drew)); exact HO309.out) hb); have n3_ := Aside0.mk (Kd.R_lower (Kd.R_new' ho0 (Kd.R_lt (by (with_reducible repeat (first | apply Kd.R_alloc | apply Kd.R_drewN | apply Kd.R_drew)); exact HO300.out))) (below_size (by repeat (first | (with_reducible first | exact HB.out | apply below_alloc | apply pw_below_drewN | apply below_drew1 | refine below_set ?_ GE302.out) | exact HB.out)))); have n4_ := Aside0.mk (blk_below (g := gb302) (o := .cells #[.int .u8 t295, .bool t296, .bool t297, .slice Ao26 t298.length co26] 29 (0, 0)) (by (with_reducible repeat (first | refine blk_drewN ?_ _ | refine blk_drew ?_ | refine blk_alloc ?_ _)); exact BK302.out) hb); have n5_ := Aside0.mk (below_step (by repeat (first | (with_reducible first | exact HB.out | apply below_alloc | apply pw_below_drewN | apply below_drew1 | refine below_set ?_ GE302.out) | exact HB.out)) hb); clear HO300; clear HO305; clear HO309; clear BK302; clear HB; have HO300 := n0_; have HO305 := n1_; have HO309 := n2_; have HO315 := n3_; have BK302 := n4_; have HB := n5_; clear n0_ n1_ n2_ n3_ n4_ n5_; (try clear hb); (try clear hb2); (try clear hk); (try clear hi); (try clear ho0)) | ((with_reducible refine gate_dst (N := 14) rfl ?_); refine box_event ?hg (N := 14) ?hd (cs := #[.int .u8 0, .bool false, .bool false, .slice none 0 0]) (t := 29) ?hr ?_; (case hd => rfl); (case hg => rfl); (case hr => first | (go_simp; done) | (go_simp; rfl)); intro gb317 hg w31 hbox hb; have n0_ := Aside0.mk (Kd.R_below (by (with_reducible repeat (first | apply Kd.R_alloc | apply Kd.R_drewN | apply Kd.R_drew)); exact HO300.out) hb); have n1_ := Aside0.mk (Kd.R_below (by (with_reducible repeat (first | apply Kd.R_alloc | apply Kd.R_drewN | apply Kd.R_drew)); exact HO305.out) hb); have n2_ := Aside0.mk (Kd.R_below (by (with_reducible repeat (first | apply Kd.R_alloc | apply Kd.R_drewN | apply Kd.R_drew)); exact HO309.out) hb); have n3_ := Aside0.mk (Kd.R_below (by (with_reducible repeat (first | apply Kd.R_alloc | apply Kd.R_drewN | apply Kd.R_drew)); exact HO315.out) hb); have n4_ := Aside0.mk (blk_below (g := gb302) (o := .cells #[.int .u8 t295, .bool t296, .bool t297, .slice Ao26 t298.length co26] 29 (0, 0)) (by (with_reducible repeat (first | refine blk_drewN ?_ _ | refine blk_drew ?_ | refine blk_alloc ?_ _)); exact BK302.out) hb); have n5_ := Aside0.mk (below_step (by repeat (first | (with_reducible first | exact HB.out | apply below_alloc | apply pw_below_drewN | apply below_drew1 | refine below_set ?_ GE302.out) | exact HB.out)) hb); have n6_ := Aside0.mk (hbox); have n7_ := Aside0.mk ((by rw [hg]; exact (below_size (by repeat (first | (with_reducible first | exact HB.out | apply below_alloc | apply pw_below_drewN | apply below_drew1 | refine below_set ?_ GE302.out) | exact HB.out))) : w.heap.size ≤ gb317)); have n8_ := Aside0.mk ((by rw [hg]; exact (below_size (by repeat (first | (with_reducible first | exact HB.out | apply below_alloc | apply pw_below_drewN | apply below_drew1 | refine below_set ?_ GE302.out) | exact HB.out))) : w.heap.size ≤ gb317)); have n9_ := Aside0.mk ((by rw [hg]; exact Nat.ne_of_lt (blk_lt (g := gb302) (o := .cells #[.int .u8 t295, .bool t296, .bool t297, .slice Ao26 t298.length co26] 29 (0, 0)) (by (with_reducible repeat (first | refine blk_drewN ?_ _ | refine blk_drew ?_ | refine blk_alloc ?_ _)); exact BK302.out)) : gb302 ≠ gb317)); have n10_ := Aside0.mk ((by rw [hg]; exact Nat.ne_of_gt (blk_lt (g := gb302) (o := .cells #[.int .u8 t295, .bool t296, .bool t297, .slice Ao26 t298.length co26] 29 (0, 0)) (by (with_reducible repeat (first | refine blk_drewN ?_ _ | refine blk_drew ?_ | refine blk_alloc ?_ _)); exact BK302.out)) : gb317 ≠ gb302)); clear HO300; clear HO305; clear HO309; clear HO315; clear BK302; clear HB; have HO300 := n0_; have HO305 := n1_; have HO309 := n2_; have HO315 := n3_; have BK302 := n4_; have HB := n5_; have BK317 := n6_; have GW317 := n7_; have GE317 := n8_; have NB302_317 := n9_; have NB317_302 := n10_; clear n0_ n1_ n2_ n3_ n4_ n5_ n6_ n7_ n8_ n9_ n10_; clear hb hbox hg; have hnb32 := NB317_302.out; have hnc32 := NB302_317.out; have hcz33_0 : w31.cell? ⟨gb317, 0, none⟩ = some (.int .u8 0) := (blk_cell BK317.out 0).trans rfl; have hcz33_1 : w31.cell? ⟨gb317, 1, none⟩ = some (.bool false) := (blk_cell BK317.out 1).trans rfl; have hcz33_2 : w31.cell? ⟨gb317, 2, none⟩ = some (.bool false) := (blk_cell BK317.out 2).trans rfl; have hcz33_3 : w31.cell? ⟨gb317, 3, none⟩ = some (.slice none 0 0) := (blk_cell BK317.out 3).trans rfl; have hfz33_0 := blk_frozen BK317.out 0; have hfz33_1 := blk_frozen BK317.out 1; have hfz33_2 := blk_frozen BK317.out 2; have hfz33_3 := blk_frozen BK317.out 3; obtain ⟨Ao34, co34, eo34⟩ := Kd.R_slice HO315.out; subst eo34) | ((with_reducible refine gate_callee (f := 13) rfl ?_); refine goesL_ (some 50) rfl rfl Tryd.func13 (by kernel_rfl) rfl #[.agg #[.int .u8 t310, .bool t311, .bool t312, .slice Ao34 t313.length co34]] rfl (by (try simp only [List.map_toArray, List.map_cons, List.map_nil]); first | done | rfl | (simp only [List.length_drop, List.length_take]; rfl)) ?_; (with_reducible refine (codec_Encode.calls kj4 t310 t311 t312 _ _ t313 t318 t321 _ ?side1 ?side2 A16.out).mono ?_); (case side1 => refine (Kd.R_reads' (e := 37) (base := w.heap.size) (ok := fun k_ => (True ∧ some k_ ≠ (.slice Ao26 t298.length co26 : Value).ownBlock)) (n := t313.length) (c := co34) ?_).2.2; exact (by (with_reducible repeat (first | apply Kd.R_alloc | apply Kd.R_drewN | apply Kd.R_drew)); exact (Kd.R_mono (Kd.R_far (p := ⟨gb317, 3, none⟩) (Kd.R_far (p := ⟨gb317, 2, none⟩) (Kd.R_far (p := ⟨gb317, 1, none⟩) (Kd.R_far (p := ⟨gb317, 0, none⟩) (Kd.R_types HO315.out BK317.out (by decide)) (fun _ hk => hk.2) (.int .u8 t310)) (fun _ hk => hk.2) (.bool t311)) (fun _ hk => hk.2) (.bool t312)) (fun _ hk => hk.2) (.slice Ao34 t313.length co34)) (fun _ h_ => h_.1)))); (case side2 => exact (Kd.R_reads' HO315.out).2.1); rintro e w35 ⟨v319, rfl, ho0, hb⟩; refine ⟨_, rfl, ?_⟩; have n0_ := Aside0.mk (Kd.R_below (by (with_reducible repeat (first | apply Kd.R_alloc | apply Kd.R_drewN | apply Kd.R_drew)); exact (Kd.R_mono (Kd.R_far (p := ⟨gb317, 3, none⟩) (Kd.R_far (p := ⟨gb317, 2, none⟩) (Kd.R_far (p := ⟨gb317, 1, none⟩) (Kd.R_far (p := ⟨gb317, 0, none⟩) (Kd.R_types HO300.out BK317.out (by decide)) (fun _ hk => hk.2) (.int .u8 t310)) (fun _ hk => hk.2) (.bool t311)) (fun _ hk => hk.2) (.bool t312)) (fun _ hk => hk.2) (.slice Ao34 t313.length co34)) (fun _ h_ => h_.1))) hb); have n1_ := Aside0.mk (Kd.R_elder' (by (with_reducible repeat (first | apply Kd.R_alloc | apply Kd.R_drewN | apply Kd.R_drew)); exact (Kd.R_mono (Kd.R_far (p := ⟨gb317, 3, none⟩) (Kd.R_far (p := ⟨gb317, 2, none⟩) (Kd.R_far (p := ⟨gb317, 1, none⟩) (Kd.R_far (p := ⟨gb317, 0, none⟩) (Kd.R_types HO305.out BK317.out (by decide)) (fun _ hk => hk.2) (.int .u8 t310)) (fun _ hk => hk.2) (.bool t311)) (fun _ hk => hk.2) (.bool t312)) (fun _ hk => hk.2) (.slice Ao34 t313.length co34)) (fun _ h_ => h_.1))) (Kd.R_base ho0) hb); have n2_ := Aside0.mk (Kd.R_elder' (by (with_reducible repeat (first | apply Kd.R_alloc | apply Kd.R_drewN | apply Kd.R_drew)); exact (Kd.R_mono (Kd.R_far (p := ⟨gb317, 3, none⟩) (Kd.R_far (p := ⟨gb317, 2, none⟩) (Kd.R_far (p := ⟨gb317, 1, none⟩) (Kd.R_far (p := ⟨gb317, 0, none⟩) (Kd.R_types HO309.out BK317.out (by decide)) (fun _ hk => hk.2) (.int .u8 t310)) (fun _ hk => hk.2) (.bool t311)) (fun _ hk => hk.2) (.bool t312)) (fun _ hk => hk.2) (.slice Ao34 t313.length co34)) (fun _ h_ => h_.1))) (Kd.R_base ho0) hb); have n3_ := Aside0.mk (Kd.R_below (by (with_reducible repeat (first | apply Kd.R_alloc | apply Kd.R_drewN | apply Kd.R_drew)); exact (Kd.R_mono (Kd.R_far (p := ⟨gb317, 3, none⟩) (Kd.R_far (p := ⟨gb317, 2, none⟩) (Kd.R_far (p := ⟨gb317, 1, none⟩) (Kd.R_far (p := ⟨gb317, 0, none⟩) (Kd.R_types HO315.out BK317.out (by decide)) (fun _ hk => hk.2) (.int .u8 t310)) (fun _ hk => hk.2) (.bool t311)) (fun _ hk => hk.2) (.bool t312)) (fun _ hk => hk.2) (.slice Ao34 t313.length co34)) (fun _ h_ => h_.1))) hb); have n4_ := Aside0.mk (Kd.R_lower (Kd.R_new' (Kd.R_new' ho0 (Kd.R_lt (by (with_reducible repeat (first | apply Kd.R_alloc | apply Kd.R_drewN | apply Kd.R_drew)); exact (Kd.R_mono (Kd.R_far (p := ⟨gb317, 3, none⟩) (Kd.R_far (p := ⟨gb317, 2, none⟩) (Kd.R_far (p := ⟨gb317, 1, none⟩) (Kd.R_far (p := ⟨gb317, 0, none⟩) (Kd.R_types HO305.out BK317.out (by decide)) (fun _ hk => hk.2) (.int .u8 t310)) (fun _ hk => hk.2) (.bool t311)) (fun _ hk => hk.2) (.bool t312)) (fun _ hk => hk.2) (.slice Ao34 t313.length co34)) (fun _ h_ => h_.1))))) (Kd.R_lt (by (with_reducible repeat (first | apply Kd.R_alloc | apply Kd.R_drewN | apply Kd.R_drew)); exact (Kd.R_mono (Kd.R_far (p := ⟨gb317, 3, none⟩) (Kd.R_far (p := ⟨gb317, 2, none⟩) (Kd.R_far (p := ⟨gb317, 1, none⟩) (Kd.R_far (p := ⟨gb317, 0, none⟩) (Kd.R_types HO309.out BK317.out (by decide)) (fun _ hk => hk.2) (.int .u8 t310)) (fun _ hk => hk.2) (.bool t311)) (fun _ hk => hk.2) (.bool t312)) (fun _ hk => hk.2) (.slice Ao34 t313.length co34)) (fun _ h_ => h_.1))))) (below_size (by repeat (first | (with_reducible first | exact HB.out | apply below_alloc | apply pw_below_drewN | apply below_drew1 | refine below_set ?_ GE302.out | refine below_set ?_ GE317.out) | exact HB.out)))); have n5_ := Aside0.mk (blk_below (g := gb302) (o := .cells #[.int .u8 t295, .bool t296, .bool t297, .slice Ao26 t298.length co26] 29 (0, 0)) (by (with_reducible repeat (first | refine blk_drewN ?_ _ | refine blk_drew ?_ | refine blk_alloc ?_ _)); refine blk_far ?_ NB302_317.out _; (with_reducible repeat (first | refine blk_drewN ?_ _ | refine blk_drew ?_ | refine blk_alloc ?_ _)); refine blk_far ?_ NB302_317.out _; (with_reducible repeat (first | refine blk_drewN ?_ _ | refine blk_drew ?_ | refine blk_alloc ?_ _)); refine blk_far ?_ NB302_317.out _; (with_reducible repeat (first | refine blk_drewN ?_ _ | refine blk_drew ?_ | refine blk_alloc ?_ _)); refine blk_far ?_ NB302_317.out _; (with_reducible repeat (first | refine blk_drewN ?_ _ | refine blk_drew ?_ | refine blk_alloc ?_ _)); exact BK302.out) hb); have n6_ := Aside0.mk (blk_below (g := gb317) (o := .cells #[.int .u8 t310, .bool t311, .bool t312, .slice Ao34 t313.length co34] 29 (0, 0)) (by (with_reducible repeat (first | refine blk_drewN ?_ _ | refine blk_drew ?_ | refine blk_alloc ?_ _)); refine blk_put (cs := #[.int .u8 t310, .bool t311, .bool t312, .slice none 0 0]) ?_ 3 _ rfl; (with_reducible repeat (first | refine blk_drewN ?_ _ | refine blk_drew ?_ | refine blk_alloc ?_ _)); refine blk_put (cs := #[.int .u8 t310, .bool t311, .bool false, .slice none 0 0]) ?_ 2 _ rfl; (with_reducible repeat (first | refine blk_drewN ?_ _ | refine blk_drew ?_ | refine blk_alloc ?_ _)); refine blk_put (cs := #[.int .u8 t310, .bool false, .bool false, .slice none 0 0]) ?_ 1 _ rfl; (with_reducible repeat (first | refine blk_drewN ?_ _ | refine blk_drew ?_ | refine blk_alloc ?_ _)); refine blk_put (cs := #[.int .u8 0, .bool false, .bool false, .slice none 0 0]) ?_ 0 _ rfl; (with_reducible repeat (first | refine blk_drewN ?_ _ | refine blk_drew ?_ | refine blk_alloc ?_ _)); exact BK317.out) hb); have n7_ := Aside0.mk (below_step (by repeat (first | (with_reducible first | exact HB.out | apply below_alloc | apply pw_below_drewN | apply below_drew1 | refine below_set ?_ GE302.out | refine below_set ?_ GE317.out) | exact HB.out)) hb); clear HO300; clear HO305; clear HO309; clear HO315; clear BK302; clear BK317; clear HB; have HO300 := n0_; have HO305 := n1_; have HO309 := n2_; have HO315 := n3_; have HO320 := n4_; have BK302 := n5_; have BK317 := n6_; have HB := n7_; clear n0_ n1_ n2_ n3_ n4_ n5_ n6_ n7_; (try clear hb); (try clear hb2); (try clear hk); (try clear hi); (try clear ho0)))
                  have n0_ := Aside0.mk (Kd.R_drew HO300.out)
                  have n1_ := Aside0.mk (Kd.R_drew HO305.out)
                  have n2_ := Aside0.mk (Kd.R_drew HO309.out)
                  have n3_ := Aside0.mk (Kd.R_drew HO315.out)
                  have n4_ := Aside0.mk (Kd.R_drew HO320.out)
                  have n5_ := Aside0.mk (blk_drew BK302.out)
                  have n6_ := Aside0.mk (blk_drew BK317.out)
                  have n7_ := Aside0.mk (below_drew1 HB.out)
                  clear HO300
                  clear HO305
                  clear HO309
                  clear HO315
                  clear HO320
                  clear BK302
                  clear BK317
                  clear HB
                  have HO300 := n0_
                  have HO305 := n1_
                  have HO309 := n2_
                  have HO315 := n3_
                  have HO320 := n4_
                  have BK302 := n5_
                  have BK317 := n6_
                  have HB := n7_
                  clear n0_ n1_ n2_ n3_ n4_ n5_ n6_ n7_
                  have hcv37 := own_string (P := Tryd.prog) Tryd.underlying22 Tryd.underlying5 Tryd.underlying9 (Kd.own_of_R HO305.out)
                  have hcv38 := Kd.C_string (P := Tryd.prog) (A := A0) (c := c0) Tryd.underlying22 Tryd.underlying5 Tryd.underlying9 (Kd.C_below HR0.out HB.out)
                  have hcv39 := own_string (P := Tryd.prog) Tryd.underlying22 Tryd.underlying5 Tryd.underlying9 (Kd.own_of_R HO320.out)
                  refine start_ (n := 31) (S := fun w' => ((convert 22 9 v304).run Tryd.prog w' = .ok (.string (strOfNums t303)) w' ∧ (convert 22 9 (.slice A0 l0.length c0)).run Tryd.prog w' = .ok (.string (strOfNums l0)) w') ∧ (convert 22 9 v319).run Tryd.prog w' = .ok (.string (strOfNums t318)) w') (ds := []) #[false, false, false, false, false, false, false, false, false, false, false, false, false, false, false, false, false, false, false, false, false, false, false, false, false, false, false, false, false, false, false] (by kernel_rfl) rfl rfl ⟨⟨hcv37, hcv38⟩, hcv39⟩ (fun hHeld => ?_); refine with_tabW redactorlaw04_CodecBack.tab8 redactorlaw04_CodecBack.bits8 (fun HT_ HW_ => ?_)
                  generalize w35.drew = w36 at HO300 HO305 HO309 HO315 HO320 BK302 BK317 HB hHeld ⊢
                  refine pure_ (i := 0) (N := some 53) (v := ?_) (a' := ?_) #[true, false, false, false, false, false, false, false, false, false, false, false, false, false, false, false, false, false, false, false, false, false, false, false, false, false, false, false, false, false, false] rfl rfl (any_of HT_.out (by kernel_rfl)) (fun _ _ _ h => h) (Or.inl ⟨by rfl, ?_⟩) ?_ ?_
                  rotate_left
                  · intro w'
                    go_simp
                    with_reducible rfl
                  rotate_left
                  · simp only [Act.put, List.setIfInBounds_toArray, List.set_cons_zero, List.set_cons_succ, i64_w, i32_w]
                    rfl
                  refine pure_ (i := 1) (N := some 54) (v := ?_) (a' := ?_) #[true, true, false, false, false, false, false, false, false, false, false, false, false, false, false, false, false, false, false, false, false, false, false, false, false, false, false, false, false, false, false] rfl rfl (any_of HT_.out (by kernel_rfl)) (fun _ _ _ h => h) (Or.inl ⟨by rfl, ?_⟩) ?_ ?_
                  rotate_left
                  · intro w'
                    go_simp
                    with_reducible rfl
                  rotate_left
                  · simp only [Act.put, List.setIfInBounds_toArray, List.set_cons_zero, List.set_cons_succ, i64_w, i32_w]
                    rfl
                  refine pure_ (i := 2) (N := some 55) (v := ?_) (a' := ?_) #[true, true, true, false, false, false, false, false, false, false, false, false, false, false, false, false, false, false, false, false, false, false, false, false, false, false, false, false, false, false, false] rfl rfl (any_of HT_.out (by kernel_rfl)) (fun _ _ _ h => h) (Or.inl ⟨by rfl, ?_⟩) ?_ ?_
                  rotate_left
                  · intro w'
                    go_simp
                    with_reducible rfl
                  rotate_left
                  · simp only [Act.put, List.setIfInBounds_toArray, List.set_cons_zero, List.set_cons_succ, i64_w, i32_w]
                    rfl
                  refine pure_ (i := 3) (N := some 56) (v := ?_) (a' := ?_) #[true, true, true, true, false, false, false, false, false, false, false, false, false, false, false, false, false, false, false, false, false, false, false, false, false, false, false, false, false, false, false] rfl rfl (any_of HT_.out (by kernel_rfl)) (fun _ _ _ h => h) (Or.inl ⟨by rfl, ?_⟩) ?_ ?_
                  rotate_left
                  · intro w'
                    go_simp
                    with_reducible rfl
                  rotate_left
                  · simp only [Act.put, List.setIfInBounds_toArray, List.set_cons_zero, List.set_cons_succ, i64_w, i32_w]
                    rfl
                  refine pure_ (i := 4) (N := some 57) (v := ?_) (a' := ?_) #[true, true, true, true, true, false, false, false, false, false, false, false, false, false, false, false, false, false, false, false, false, false, false, false, false, false, false, false, false, false, false] rfl rfl (any_of HT_.out (by kernel_rfl)) (fun _ _ _ h => h) (Or.inl ⟨by rfl, ?_⟩) ?_ ?_
                  rotate_left
                  · intro w'
                    go_simp
                    with_reducible rfl
                  rotate_left
                  · simp only [Act.put, List.setIfInBounds_toArray, List.set_cons_zero, List.set_cons_succ, i64_w, i32_w]
                    rfl
                  refine pure_ (i := 5) (N := some 58) (v := ?_) (a' := ?_) #[true, true, true, true, true, true, false, false, false, false, false, false, false, false, false, false, false, false, false, false, false, false, false, false, false, false, false, false, false, false, false] rfl rfl (any_of HT_.out (by kernel_rfl)) (fun _ _ _ h => h) (Or.inl ⟨by rfl, ?_⟩) ?_ ?_
                  rotate_left
                  · intro w'
                    go_simp
                    with_reducible rfl
                  rotate_left
                  · simp only [Act.put, List.setIfInBounds_toArray, List.set_cons_zero, List.set_cons_succ, i64_w, i32_w]
                    rfl
                  refine pure_ (i := 6) (N := some 59) (v := ?_) (a' := ?_) #[true, true, true, true, true, true, true, false, false, false, false, false, false, false, false, false, false, false, false, false, false, false, false, false, false, false, false, false, false, false, false] rfl rfl (any_of HT_.out (by kernel_rfl)) (fun _ _ _ h => h) (Or.inl ⟨by rfl, ?_⟩) ?_ ?_
                  rotate_left
                  · intro w'
                    go_simp
                    with_reducible rfl
                  rotate_left
                  · simp only [Act.put, List.setIfInBounds_toArray, List.set_cons_zero, List.set_cons_succ, i64_w, i32_w]
                    rfl
                  refine pure_ (i := 7) (N := some 60) (v := ?_) (a' := ?_) #[true, true, true, true, true, true, true, true, false, false, false, false, false, false, false, false, false, false, false, false, false, false, false, false, false, false, false, false, false, false, false] rfl rfl (any_of HT_.out (by kernel_rfl)) (fun _ _ _ h => h) (Or.inl ⟨by rfl, ?_⟩) ?_ ?_
                  rotate_left
                  · intro w'
                    go_simp
                    with_reducible rfl
                  rotate_left
                  · simp only [Act.put, List.setIfInBounds_toArray, List.set_cons_zero, List.set_cons_succ, i64_w, i32_w]
                    rfl
                  refine pure_ (i := 8) (N := some 61) (v := ?_) (a' := ?_) #[true, true, true, true, true, true, true, true, true, false, false, false, false, false, false, false, false, false, false, false, false, false, false, false, false, false, false, false, false, false, false] rfl rfl (any_of HT_.out (by kernel_rfl)) (fun _ _ _ h => h) (Or.inl ⟨by rfl, ?_⟩) ?_ ?_
                  rotate_left
                  · intro w'
                    go_simp
                    with_reducible rfl
                  rotate_left
                  · simp only [Act.put, List.setIfInBounds_toArray, List.set_cons_zero, List.set_cons_succ, i64_w, i32_w]
                    rfl
                  refine pure_ (i := 9) (N := some 62) (v := ?_) (a' := ?_) #[true, true, true, true, true, true, true, true, true, true, false, false, false, false, false, false, false, false, false, false, false, false, false, false, false, false, false, false, false, false, false] rfl rfl (any_of HT_.out (by kernel_rfl)) (fun _ _ _ h => h) (Or.inl ⟨by rfl, ?_⟩) ?_ ?_
                  rotate_left
                  · intro w'
                    go_simp
                    with_reducible rfl
                  rotate_left
                  · simp only [Act.put, List.setIfInBounds_toArray, List.set_cons_zero, List.set_cons_succ, i64_w, i32_w]
                    rfl
                  refine pure_ (i := 10) (N := some 63) (v := ?_) (a' := ?_) #[true, true, true, true, true, true, true, true, true, true, true, false, false, false, false, false, false, false, false, false, false, false, false, false, false, false, false, false, false, false, false] rfl rfl (any_of HT_.out (by kernel_rfl)) (fun _ _ _ h => h) (Or.inl ⟨by rfl, ?_⟩) ?_ ?_
                  rotate_left
                  · intro w'
                    go_simp
                    with_reducible rfl
                  rotate_left
                  · simp only [Act.put, List.setIfInBounds_toArray, List.set_cons_zero, List.set_cons_succ, i64_w, i32_w]
                    rfl
                  refine pure_ (i := 11) (N := some 64) (v := ?_) (a' := ?_) #[true, true, true, true, true, true, true, true, true, true, true, true, false, false, false, false, false, false, false, false, false, false, false, false, false, false, false, false, false, false, false] rfl rfl (any_of HT_.out (by kernel_rfl)) (fun _ _ _ h => h) (Or.inl ⟨by rfl, ?_⟩) ?_ ?_
                  rotate_left
                  · intro w'
                    go_simp
                    with_reducible rfl
                  rotate_left
                  · simp only [Act.put, List.setIfInBounds_toArray, List.set_cons_zero, List.set_cons_succ, i64_w, i32_w]
                    rfl
                  refine pure_ (i := 12) (N := some 65) (v := ?_) (a' := ?_) #[true, true, true, true, true, true, true, true, true, true, true, true, true, false, false, false, false, false, false, false, false, false, false, false, false, false, false, false, false, false, false] rfl rfl (any_of HT_.out (by kernel_rfl)) (fun _ _ _ h => h) (Or.inl ⟨by rfl, ?_⟩) ?_ ?_
                  rotate_left
                  · intro w'
                    go_simp
                    with_reducible rfl
                  rotate_left
                  · simp only [Act.put, List.setIfInBounds_toArray, List.set_cons_zero, List.set_cons_succ, i64_w, i32_w]
                    rfl
                  refine pure_ (i := 13) (N := some 66) (v := ?_) (a' := ?_) #[true, true, true, true, true, true, true, true, true, true, true, true, true, true, false, false, false, false, false, false, false, false, false, false, false, false, false, false, false, false, false] rfl rfl (any_of HT_.out (by kernel_rfl)) (fun _ _ _ h => h) (Or.inl ⟨by rfl, ?_⟩) ?_ ?_
                  rotate_left
                  · intro w'
                    go_simp
                    with_reducible rfl
                  rotate_left
                  · simp only [Act.put, List.setIfInBounds_toArray, List.set_cons_zero, List.set_cons_succ, i64_w, i32_w]
                    rfl
                  refine pure_ (i := 14) (N := some 67) (v := ?_) (a' := ?_) #[true, true, true, true, true, true, true, true, true, true, true, true, true, true, true, false, false, false, false, false, false, false, false, false, false, false, false, false, false, false, false] rfl rfl (any_of HT_.out (by kernel_rfl)) (fun _ _ _ h => h) (Or.inl ⟨by rfl, ?_⟩) ?_ ?_
                  rotate_left
                  · intro w'
                    go_simp
                    with_reducible rfl
                  rotate_left
                  · simp only [Act.put, List.setIfInBounds_toArray, List.set_cons_zero, List.set_cons_succ, i64_w, i32_w]
                    rfl
                  refine pure_ (i := 15) (N := some 68) (v := ?_) (a' := ?_) #[true, true, true, true, true, true, true, true, true, true, true, true, true, true, true, true, false, false, false, false, false, false, false, false, false, false, false, false, false, false, false] rfl rfl (any_of HT_.out (by kernel_rfl)) (fun _ _ _ h => h) (Or.inl ⟨by rfl, ?_⟩) ?_ ?_
                  rotate_left
                  · intro w'
                    go_simp
                    with_reducible rfl
                  rotate_left
                  · simp only [Act.put, List.setIfInBounds_toArray, List.set_cons_zero, List.set_cons_succ, i64_w, i32_w]
                    rfl
                  refine take_ (i := 16) (N := some 69) (v := ?_) (a' := ?_) #[true, true, true, true, true, true, true, true, true, true, true, true, true, true, true, true, true, false, false, false, false, false, false, false, false, false, false, false, false, false, false] rfl rfl (take_ofW HT_.out HW_.out (by kernel_rfl)) (fun _ _ _ h => h) (Or.inl ⟨by rfl, ?_⟩) hHeld ?_ ?_
                  rotate_left
                  · rintro w' ⟨⟨s0, s1⟩, s2⟩
                    go_simp
                    with_reducible rfl
                  rotate_left
                  · simp only [Act.put, List.setIfInBounds_toArray, List.set_cons_zero, List.set_cons_succ, i64_w, i32_w]
                    rfl
                  refine pure_ (i := 17) (N := some 70) (v := ?_) (a' := ?_) #[true, true, true, true, true, true, true, true, true, true, true, true, true, true, true, true, true, true, false, false, false, false, false, false, false, false, false, false, false, false, false] rfl rfl (any_of HT_.out (by kernel_rfl)) (fun _ _ _ h => h) (Or.inl ⟨by rfl, ?_⟩) ?_ ?_
                  rotate_left
                  · intro w'
                    go_simp
                    with_reducible rfl
                  rotate_left
                  · simp only [Act.put, List.setIfInBounds_toArray, List.set_cons_zero, List.set_cons_succ, i64_w, i32_w]
                    rfl
                  refine take_ (i := 18) (N := some 71) (v := ?_) (a' := ?_) #[true, true, true, true, true, true, true, true, true, true, true, true, true, true, true, true, true, true, true, false, false, false, false, false, false, false, false, false, false, false, false] rfl rfl (take_ofW HT_.out HW_.out (by kernel_rfl)) (fun _ _ _ h => h) (Or.inl ⟨by rfl, ?_⟩) hHeld ?_ ?_
                  rotate_left
                  · rintro w' ⟨⟨s0, s1⟩, s2⟩
                    go_simp
                    with_reducible rfl
                  rotate_left
                  · simp only [Act.put, List.setIfInBounds_toArray, List.set_cons_zero, List.set_cons_succ, i64_w, i32_w]
                    rfl
                  refine pure_ (i := 19) (N := some 72) (v := ?_) (a' := ?_) #[true, true, true, true, true, true, true, true, true, true, true, true, true, true, true, true, true, true, true, true, false, false, false, false, false, false, false, false, false, false, false] rfl rfl (any_of HT_.out (by kernel_rfl)) (fun _ _ _ h => h) (Or.inl ⟨by rfl, ?_⟩) ?_ ?_
                  rotate_left
                  · intro w'
                    go_simp
                    with_reducible rfl
                  rotate_left
                  · simp only [Act.put, List.setIfInBounds_toArray, List.set_cons_zero, List.set_cons_succ, i64_w, i32_w]
                    rfl
                  refine pure_ (i := 20) (N := some 73) (v := ?_) (a' := ?_) #[true, true, true, true, true, true, true, true, true, true, true, true, true, true, true, true, true, true, true, true, true, false, false, false, false, false, false, false, false, false, false] rfl rfl (any_of HT_.out (by kernel_rfl)) (fun _ _ _ h => h) (Or.inl ⟨by rfl, ?_⟩) ?_ ?_
                  rotate_left
                  · intro w'
                    go_simp
                    with_reducible rfl
                  rotate_left
                  · simp only [Act.put, List.setIfInBounds_toArray, List.set_cons_zero, List.set_cons_succ, i64_w, i32_w]
                    rfl
                  refine pure_ (i := 21) (N := some 74) (v := ?_) (a' := ?_) #[true, true, true, true, true, true, true, true, true, true, true, true, true, true, true, true, true, true, true, true, true, true, false, false, false, false, false, false, false, false, false] rfl rfl (any_of HT_.out (by kernel_rfl)) (fun _ _ _ h => h) (Or.inl ⟨by rfl, ?_⟩) ?_ ?_
                  rotate_left
                  · intro w'
                    go_simp
                    with_reducible rfl
                  rotate_left
                  · simp only [Act.put, List.setIfInBounds_toArray, List.set_cons_zero, List.set_cons_succ, i64_w, i32_w]
                    rfl
                  refine pure_ (i := 22) (N := some 75) (v := ?_) (a' := ?_) #[true, true, true, true, true, true, true, true, true, true, true, true, true, true, true, true, true, true, true, true, true, true, true, false, false, false, false, false, false, false, false] rfl rfl (any_of HT_.out (by kernel_rfl)) (fun _ _ _ h => h) (Or.inl ⟨by rfl, ?_⟩) ?_ ?_
                  rotate_left
                  · intro w'
                    go_simp
                    with_reducible rfl
                  rotate_left
                  · simp only [Act.put, List.setIfInBounds_toArray, List.set_cons_zero, List.set_cons_succ, i64_w, i32_w]
                    rfl
                  refine take_ (i := 23) (N := some 76) (v := ?_) (a' := ?_) #[true, true, true, true, true, true, true, true, true, true, true, true, true, true, true, true, true, true, true, true, true, true, true, true, false, false, false, false, false, false, false] rfl rfl (take_ofW HT_.out HW_.out (by kernel_rfl)) (fun _ _ _ h => h) (Or.inl ⟨by rfl, ?_⟩) hHeld ?_ ?_
                  rotate_left
                  · rintro w' ⟨⟨s0, s1⟩, s2⟩
                    go_simp
                    with_reducible rfl
                  rotate_left
                  · simp only [Act.put, List.setIfInBounds_toArray, List.set_cons_zero, List.set_cons_succ, i64_w, i32_w]
                    rfl
                  refine pure_ (i := 24) (N := some 77) (v := ?_) (a' := ?_) #[true, true, true, true, true, true, true, true, true, true, true, true, true, true, true, true, true, true, true, true, true, true, true, true, true, false, false, false, false, false, false] rfl rfl (any_of HT_.out (by kernel_rfl)) (fun _ _ _ h => h) (Or.inl ⟨by rfl, ?_⟩) ?_ ?_
                  rotate_left
                  · intro w'
                    go_simp
                    with_reducible rfl
                  rotate_left
                  · simp only [Act.put, List.setIfInBounds_toArray, List.set_cons_zero, List.set_cons_succ, i64_w, i32_w]
                    rfl
                  refine pure_ (i := 25) (N := some 78) (v := ?_) (a' := ?_) #[true, true, true, true, true, true, true, true, true, true, true, true, true, true, true, true, true, true, true, true, true, true, true, true, true, true, false, false, false, false, false] rfl rfl (any_of HT_.out (by kernel_rfl)) (fun _ _ _ h => h) (Or.inl ⟨by rfl, ?_⟩) ?_ ?_
                  rotate_left
                  · intro w'
                    go_simp
                    with_reducible rfl
                  rotate_left
                  · simp only [Act.put, List.setIfInBounds_toArray, List.set_cons_zero, List.set_cons_succ, i64_w, i32_w]
                    rfl
                  refine one_ (i := 26) (N := some 79) #[true, true, true, true, true, true, true, true, true, true, true, true, true, true, true, true, true, true, true, true, true, true, true, true, true, true, true, false, false, false, false] rfl rfl (one_of HT_.out (by kernel_rfl)) (by decide) (fun K hK => ?_)
                  refine goes_ Tryd.func11 (by kernel_rfl) rfl #[.slice A1 l1.length c1, .int .u8 a2] (by rfl) rfl rfl (by (try simp only [List.map_toArray, List.map_cons, List.map_nil]); first | done | rfl | (simp only [List.length_drop, List.length_take]; rfl)) ?_
                  with_reducible refine (redactorlaw04_Bytes.calls kj4 _ _ l1 a2 t322 _ ?side1 ?side2 A22.out).mono ?_
                  (case side1 => repeat (first | exact (Kd.C_below HR1.out HB.out) | (with_reducible refine Kd.C_alloc ?_ _) | (with_reducible refine Kd.C_drewN ?_ _) | (with_reducible refine Kd.C_drew ?_)))
                  (case side2 => exact HC1.out)
                  rintro e w40 ⟨v323, rfl, ho0, hb⟩
                  refine ⟨_, rfl, ?_⟩
                  have n0_ := Aside0.mk (Kd.R_below (by (with_reducible repeat (first | apply Kd.R_alloc | apply Kd.R_drewN | apply Kd.R_drew)); exact HO300.out) hb)
                  have n1_ := Aside0.mk (Kd.R_elder' (by (with_reducible repeat (first | apply Kd.R_alloc | apply Kd.R_drewN | apply Kd.R_drew)); exact HO305.out) (Kd.R_base ho0) hb)
                  have n2_ := Aside0.mk (Kd.R_elder' (by (with_reducible repeat (first | apply Kd.R_alloc | apply Kd.R_drewN | apply Kd.R_drew)); exact HO309.out) (Kd.R_base ho0) hb)
                  have n3_ := Aside0.mk (Kd.R_below (by (with_reducible repeat (first | apply Kd.R_alloc | apply Kd.R_drewN | apply Kd.R_drew)); exact HO315.out) hb)
                  have n4_ := Aside0.mk (Kd.R_elder' (by (with_reducible repeat (first | apply Kd.R_alloc | apply Kd.R_drewN | apply Kd.R_drew)); exact HO320.out) (Kd.R_base ho0) hb)
                  have n5_ := Aside0.mk (Kd.R_lower (Kd.R_new' (Kd.R_new' (Kd.R_new' ho0 (Kd.R_lt (by (with_reducible repeat (first | apply Kd.R_alloc | apply Kd.R_drewN | apply Kd.R_drew)); exact HO305.out))) (Kd.R_lt (by (with_reducible repeat (first | apply Kd.R_alloc | apply Kd.R_drewN | apply Kd.R_drew)); exact HO309.out))) (Kd.R_lt (by (with_reducible repeat (first | apply Kd.R_alloc | apply Kd.R_drewN | apply Kd.R_drew)); exact HO320.out))) (below_size (by repeat (first | (with_reducible first | exact HB.out | apply below_alloc | apply pw_below_drewN | apply below_drew1 | refine below_set ?_ GE302.out | refine below_set ?_ GE317.out) | exact HB.out))))
                  have n6_ := Aside0.mk (blk_below (g := gb302) (o := .cells #[.int .u8 t295, .bool t296, .bool t297, .slice Ao26 t298.length co26] 29 (0, 0)) (by (with_reducible repeat (first | refine blk_drewN ?_ _ | refine blk_drew ?_ | refine blk_alloc ?_ _)); exact BK302.out) hb)
                  have n7_ := Aside0.mk (blk_below (g := gb317) (o := .cells #[.int .u8 t310, .bool t311, .bool t312, .slice Ao34 t313.length co34] 29 (0, 0)) (by (with_reducible repeat (first | refine blk_drewN ?_ _ | refine blk_drew ?_ | refine blk_alloc ?_ _)); exact BK317.out) hb)
                  have n8_ := Aside0.mk (below_step (by repeat (first | (with_reducible first | exact HB.out | apply below_alloc | apply pw_below_drewN | apply below_drew1 | refine below_set ?_ GE302.out | refine below_set ?_ GE317.out) | exact HB.out)) hb)
                  clear HO300
                  clear HO305
                  clear HO309
                  clear HO315
                  clear HO320
                  clear BK302
                  clear BK317
                  clear HB
                  have HO300 := n0_
                  have HO305 := n1_
                  have HO309 := n2_
                  have HO315 := n3_
                  have HO320 := n4_
                  have HO324 := n5_
                  have BK302 := n6_
                  have BK317 := n7_
                  have HB := n8_
                  clear n0_ n1_ n2_ n3_ n4_ n5_ n6_ n7_ n8_
                  (try clear hb)
                  (try clear hb2)
                  (try clear hk)
                  (try clear hi)
                  (try clear ho0)
                  refine hK.out _ _ ⟨⟨own_string (P := Tryd.prog) Tryd.underlying22 Tryd.underlying5 Tryd.underlying9 (Kd.own_of_R HO305.out), Kd.C_string (P := Tryd.prog) (A := A0) (c := c0) Tryd.underlying22 Tryd.underlying5 Tryd.underlying9 (Kd.C_below HR0.out HB.out)⟩, own_string (P := Tryd.prog) Tryd.underlying22 Tryd.underlying5 Tryd.underlying9 (Kd.own_of_R HO320.out)⟩ (fun hHeld => ?_)
                  clear hK K
                  refine norm_ (a' := ?_) ?_ ?_
                  rotate_left
                  · show Act.put _ (some 79) _ = _
                    simp only [Act.put, List.setIfInBounds_toArray, List.set_cons_zero, List.set_cons_succ, i64_w, i32_w]
                    rfl
                  refine one_ (i := 27) (N := some 80) #[true, true, true, true, true, true, true, true, true, true, true, true, true, true, true, true, true, true, true, true, true, true, true, true, true, true, true, true, false, false, false] rfl rfl (one_of HT_.out (by kernel_rfl)) (by decide) (fun K hK => ?_)
                  have hcv41 := own_string (P := Tryd.prog) Tryd.underlying22 Tryd.underlying5 Tryd.underlying9 (Kd.own_of_R HO324.out)
                  refine value_ (w1 := ?_) (v := ?_) (by rfl) rfl ?_ ?_
                  rotate_left 2
                  · go_simp
                    constructor
                    · rfl
                    · rfl
                  clear hcv41
                  refine hK.out _ _ hHeld (fun hHeld => ?_)
                  clear hK K
                  refine norm_ (a' := ?_) ?_ ?_
                  rotate_left
                  · show Act.put _ (some 80) _ = _
                    simp only [Act.put, List.setIfInBounds_toArray, List.set_cons_zero, List.set_cons_succ, i64_w, i32_w]
                    rfl
                  refine pure_ (i := 28) (N := some 81) (v := ?_) (a' := ?_) #[true, true, true, true, true, true, true, true, true, true, true, true, true, true, true, true, true, true, true, true, true, true, true, true, true, true, true, true, true, false, false] rfl rfl (any_of HT_.out (by kernel_rfl)) (fun _ _ _ h => h) (Or.inl ⟨by rfl, ?_⟩) ?_ ?_
                  rotate_left
                  · intro w'
                    go_simp
                    with_reducible rfl
                  rotate_left
                  · simp only [Act.put, List.setIfInBounds_toArray, List.set_cons_zero, List.set_cons_succ, i64_w, i32_w]
                    rfl
                  refine pure_ (i := 29) (N := some 82) (v := ?_) (a' := ?_) #[true, true, true, true, true, true, true, true, true, true, true, true, true, true, true, true, true, true, true, true, true, true, true, true, true, true, true, true, true, true, false] rfl rfl (any_of HT_.out (by kernel_rfl)) (fun _ _ _ h => h) (Or.inl ⟨by rfl, ?_⟩) ?_ ?_
                  rotate_left
                  · intro w'
                    go_simp
                    with_reducible rfl
                  rotate_left
                  · simp only [Act.put, List.setIfInBounds_toArray, List.set_cons_zero, List.set_cons_succ, i64_w, i32_w]
                    rfl
                  refine pure_ (i := 30) (N := some 8) (v := ?_) (a' := ?_) #[true, true, true, true, true, true, true, true, true, true, true, true, true, true, true, true, true, true, true, true, true, true, true, true, true, true, true, true, true, true, true] rfl rfl (any_of HT_.out (by kernel_rfl)) (fun _ _ _ h => h) (Or.inl ⟨by rfl, ?_⟩) ?_ ?_
                  rotate_left
                  · intro w'
                    go_simp
                    with_reducible rfl
                  rotate_left
                  · simp only [Act.put, List.setIfInBounds_toArray, List.set_cons_zero, List.set_cons_succ, i64_w, i32_w]
                    rfl
                  refine done_ (done_of HT_.out (by kernel_rfl)) ?_
                  try go_wp2
                  all_goals go_ret
                  all_goals exact ⟨by first | rfl | (simp [errW_none, errW_some] <;> rfl) | (simp [*, errW_none, errW_some] <;> rfl), by repeat (first | (with_reducible first | exact HB.out | apply below_alloc | apply pw_below_drewN | apply below_drew1 | refine below_set ?_ GE302.out | refine below_set ?_ GE317.out) | exact HB.out)⟩
                · rw [if_neg c21] at H
                  have c21b0 : ((strOfNums t303).toList == (strOfNums l0).toList) = false := beq_eq_false_iff_ne.mpr c21
                  have c21b1 : ((strOfNums t303).toList != (strOfNums l0).toList) = true := bne_iff_ne.mpr c21
                  exact absurd (Option.some.inj H) (by rw [hrt.out]; decide)
              · rw [if_neg c20] at H
                have c20b0 : (t321 == 0) = false := beq_eq_false_iff_ne.mpr c20
                have c20b1 : (t321 != 0) = true := bne_iff_ne.mpr c20
                exact absurd (Option.some.inj H) (by rw [hrt.out]; decide)
            · rw [if_neg c19] at H
              have c19b0 : (t316 == 0) = false := beq_eq_false_iff_ne.mpr c19
              have c19b1 : (t316 != 0) = true := bne_iff_ne.mpr c19
              exact absurd (Option.some.inj H) (by rw [hrt.out]; decide)
          · rw [if_neg c18] at H
            have c18b0 : (t306 == 0) = false := beq_eq_false_iff_ne.mpr c18
            have c18b1 : (t306 != 0) = true := bne_iff_ne.mpr c18
            exact absurd (Option.some.inj H) (by rw [hrt.out]; decide)
        · rw [if_neg c17] at H
          have c17b0 : (t301 == 0) = false := beq_eq_false_iff_ne.mpr c17
          have c17b1 : (t301 != 0) = true := bne_iff_ne.mpr c17
          exact absurd (Option.some.inj H) (by rw [hrt.out]; decide)

/-- THE ONE PURE STATEMENT of redactorlaw04_CodecBack: yours. -/
def redactorlaw04_CodecBack.Pure : Prop := ∀ (l0 : List Int) (l1 : List Int) (a2 : Int) (a3 : Int), l0.length ≤ maxLen → l0.length * 1 ≤ 140737488351232 → (∀ x ∈ l0, (Lit.int .u8 x).wf = true) → l1.length ≤ maxLen → l1.length * 1 ≤ 140737488351232 → (∀ x ∈ l1, (Lit.int .u8 x).wf = true) → (Lit.int .u8 a2).wf = true → (Lit.int .u8 a3).wf = true → ∃ k, redactorlaw04_CodecBack.f k l0 l1 a2 a3 = some true
theorem redactorlaw04_CodecBack.walk (P : redactorlaw04_CodecBack.Pure) (a0 : Option Addr) (len0 cap0 : Nat) (z0 : List Int) (a1 : Option Addr) (len1 cap1 : Nat) (z1 : List Int) (a2 : Int) (a3 : Int) (w : World) (w0 : (a0 = none ∧ len0 = 0 ∧ cap0 = 0 ∧ z0 = []) ∨ ∃ x, a0 = some x ∧ len0 ≤ cap0 ∧ cap0 ≤ maxLen ∧ z0.length = cap0 ∧ (∀ i, i < z0.length → w.cell? (x.add i) = some (.int .u8 (z0.getD i 0))) ∧ ∀ n ∈ z0, (Lit.int .u8 n).wf = true) (y0 : len0 * 1 ≤ 140737488351232) (w1 : (a1 = none ∧ len1 = 0 ∧ cap1 = 0 ∧ z1 = []) ∨ ∃ x, a1 = some x ∧ len1 ≤ cap1 ∧ cap1 ≤ maxLen ∧ z1.length = cap1 ∧ (∀ i, i < z1.length → w.cell? (x.add i) = some (.int .u8 (z1.getD i 0))) ∧ ∀ n ∈ z1, (Lit.int .u8 n).wf = true) (y1 : len1 * 1 ≤ 140737488351232) (w2 : (Lit.int .u8 a2).wf = true) (w3 : (Lit.int .u8 a3).wf = true) (hGL : (Lib.Utf8Tabs 0 1) w) :
    Calls Tryd.prog 4 #[.slice a0 len0 cap0, .slice a1 len1 cap1, .int .u8 a2, .int .u8 a3] w fun e w' => e = .returned (.bool true) ∧ Below w.heap.size w w' := by
  obtain ⟨l0, rfl, hr0, hm0, hw0, hc0⟩ := ReadsInt.ofRowC w0
  obtain ⟨l1, rfl, hr1, hm1, hw1, hc1⟩ := ReadsInt.ofRowC w1
  obtain ⟨k, h⟩ := P l0 l1 a2 a3 hm0 y0 hw0 hm1 y1 hw1 w2 w3
  refine (redactorlaw04_CodecBack.calls k _ _ l0 _ _ l1 a2 a3 true w (Kd.C_of_reads (d := (0 : Int)) (h1 := fun _ => rfl) hr0) hc0 (Kd.C_of_reads (d := (0 : Int)) (h1 := fun _ => rfl) hr1) hc1 hGL ⟨rfl⟩ h).mono ?_
  rintro e w' ⟨rfl, hd⟩
  exact ⟨rfl, hd⟩

end Go.Proofs.YtcofbakhhcgbfaaDoor.PX
