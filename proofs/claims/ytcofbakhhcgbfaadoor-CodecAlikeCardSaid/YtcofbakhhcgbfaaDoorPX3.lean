/- Functions of the program told as plain functions, and that each call comes to what its function says. Conditions: each contract names its own. (Written by xprint.py, a program of this session, by way of the print of the kit; not trusted: Lean checks it.) -/
import Derived.Test.YtcofbakhhcgbfaaDoorPX0
import Derived.Test.YtcofbakhhcgbfaaDoorPX1
import Derived.Test.YtcofbakhhcgbfaaDoorPX2
import Derived.Test.YtcofbakhhcgbfaaDoorExtDecodeC
import Derived.Test.YtcofbakhhcgbfaaDoorExtEncodeC
import Derived.Test.YtcofbakhhcgbfaaDoorExtGl
namespace Go.Proofs.YtcofbakhhcgbfaaDoor.PX
open Go.RowKit Go.Proofs.YtcofbakhhcgbfaaDoorW.PrintWords Go.Proofs.YtcofbakhhcgbfaaDoorW.PrintLast Go.Proofs.YtcofbakhhcgbfaaDoorW.PrintMore
attribute [local go_sem] max2_int min2_int max_two min_two max_three min_three max_four min_four   -- for this text's walks alone
set_option linter.unusedVariables false
set_option linter.unusedSimpArgs false

/-! ### redactorlaw04_CodecAlike: function 5 -/
mutual
def redactorlaw04_CodecAlike.j0 : Nat → List Int → Bool → Bool → Bool → Option (Bool)
  | 0, _, _, _, _ => none
  | k + 1, x0, x1, x2, x27 => if x27 = true then ((redactorlaw04_known.f k).bind fun t162 => (some t162)) else (redactorlaw04_CodecAlike.l0 k x0 x1 x2 ([] : List Int) 0)
def redactorlaw04_CodecAlike.l0 : Nat → List Int → Bool → Bool → List Int → Int → Option (Bool)
  | 0, _, _, _, _, _ => none
  | k + 1, x0, x1, x2, x7, x8 => if x8 < (x0.length : Int) then (if 0 ≤ x8 then (if x7.length < 35184372088832 then (redactorlaw04_CodecAlike.l0 k x0 x1 x2 (x7 ++ [wrap32 (rd x0 x8)]) (wrap64 (x8 + 1))) else (none)) else (none)) else ((codec_Encode.f k 3 false false x7).bind fun bt167 => ((codec_Encode.f k 1 false false x7).bind fun bt171 => (if x1 = true then ((codec_Encode.f k 2 true x2 x7).bind fun bt175 => (redactorlaw04_CodecAlike.j2 k x0 x2 x7 bt167.1 bt167.2 bt171.1 bt171.2 bt175.1 bt175.2)) else ((codec_Encode.f k 2 (!x2) x2 x7).bind fun bt179 => (redactorlaw04_CodecAlike.j2 k x0 x2 x7 bt167.1 bt167.2 bt171.1 bt171.2 bt179.1 bt179.2)))))
def redactorlaw04_CodecAlike.j2 : Nat → List Int → Bool → List Int → List Int → Int → List Int → Int → List Int → Int → Option (Bool)
  | 0, _, _, _, _, _, _, _, _, _ => none
  | k + 1, x0, x2, x7, x9, x10, x11, x12, x13, x14 => (codec_Decode.f k 3 x9).bind fun bt183 => ((codec_Decode.f k 1 x11).bind fun bt191 => ((codec_Decode.f k 2 x13).bind fun bt199 => (if x2 = true then (redactorlaw04_CodecAlike.j3 k x0 x7 x9 x10 x12 x14 false bt183.1 bt183.2.1 bt183.2.2.1 bt183.2.2.2.1 bt191.1 bt191.2.1 bt191.2.2.1 bt191.2.2.2.1 bt199.1 bt199.2.1 bt199.2.2.1 bt199.2.2.2.1) else (if (x13.length : Int) ≥ 2 then (if 0 < (x13.length : Int) then (if (rd x13 0) = 255 then (if 1 < (x13.length : Int) then (if (rd x13 1) = 254 then (redactorlaw04_CodecAlike.j3 k x0 x7 x9 x10 x12 x14 true bt183.1 bt183.2.1 bt183.2.2.1 bt183.2.2.2.1 bt191.1 bt191.2.1 bt191.2.2.1 bt191.2.2.2.1 bt199.1 bt199.2.1 bt199.2.2.1 bt199.2.2.2.1) else (if (rd x13 0) = 254 then (redactorlaw04_CodecAlike.j3 k x0 x7 x9 x10 x12 x14 ((rd x13 1) == 255) bt183.1 bt183.2.1 bt183.2.2.1 bt183.2.2.2.1 bt191.1 bt191.2.1 bt191.2.2.1 bt191.2.2.2.1 bt199.1 bt199.2.1 bt199.2.2.1 bt199.2.2.2.1) else (redactorlaw04_CodecAlike.j3 k x0 x7 x9 x10 x12 x14 false bt183.1 bt183.2.1 bt183.2.2.1 bt183.2.2.2.1 bt191.1 bt191.2.1 bt191.2.2.1 bt191.2.2.2.1 bt199.1 bt199.2.1 bt199.2.2.1 bt199.2.2.2.1))) else (none)) else (if (rd x13 0) = 254 then (if 1 < (x13.length : Int) then (redactorlaw04_CodecAlike.j3 k x0 x7 x9 x10 x12 x14 ((rd x13 1) == 255) bt183.1 bt183.2.1 bt183.2.2.1 bt183.2.2.2.1 bt191.1 bt191.2.1 bt191.2.2.1 bt191.2.2.2.1 bt199.1 bt199.2.1 bt199.2.2.1 bt199.2.2.2.1) else (none)) else (redactorlaw04_CodecAlike.j3 k x0 x7 x9 x10 x12 x14 false bt183.1 bt183.2.1 bt183.2.2.1 bt183.2.2.2.1 bt191.1 bt191.2.1 bt191.2.2.1 bt191.2.2.2.1 bt199.1 bt199.2.1 bt199.2.2.1 bt199.2.2.2.1))) else (none)) else (redactorlaw04_CodecAlike.j3 k x0 x7 x9 x10 x12 x14 false bt183.1 bt183.2.1 bt183.2.2.1 bt183.2.2.2.1 bt191.1 bt191.2.1 bt191.2.2.1 bt191.2.2.2.1 bt199.1 bt199.2.1 bt199.2.2.1 bt199.2.2.2.1)))))
def redactorlaw04_CodecAlike.j3 : Nat → List Int → List Int → List Int → Int → Int → Int → Bool → Int → Bool → Bool → List Int → Int → Bool → Bool → List Int → Int → Bool → Bool → List Int → Option (Bool)
  | 0, _, _, _, _, _, _, _, _, _, _, _, _, _, _, _, _, _, _, _ => none
  | k + 1, x0, x7, x9, x10, x12, x14, x112, x191000, x191001, x191002, x191003, x199000, x199001, x199002, x199003, x207000, x207001, x207002, x207003 => if x112 = true then (if x10 = 0 then (if x12 = 0 then (some (x14 == 0)) else (some false)) else (some false)) else (if x10 = 0 then (if x12 = 0 then (if x14 = 0 then ((redactorref01_Same.f k x191003 x7).bind fun t213 => (if t213 = true then ((redactorref01_Same.f k x199003 x7).bind fun t214 => (if t214 = true then ((redactorref01_Same.f k x207003 x7).bind fun t215 => (if t215 = true then (some ((strOfNums x9).toList == (strOfNums x0).toList)) else (some false))) else (some false))) else (some false))) else (some false)) else (some false)) else (some false))
end
def redactorlaw04_CodecAlike.f (k : Nat) (l0 : List Int) (a1 : Bool) (a2 : Bool) : Option (Bool) := if (l0.length : Int) > 200 then (redactorlaw04_CodecAlike.j0 k l0 a1 a2 true) else ((redactorlaw04_known.f k).bind fun t161 => (redactorlaw04_CodecAlike.j0 k l0 a1 a2 (!t161)))
theorem redactorlaw04_CodecAlike.mono_l : ∀ k, (∀ y0 y1 y2 y3, LeO (redactorlaw04_CodecAlike.j0 k y0 y1 y2 y3) (redactorlaw04_CodecAlike.j0 (k + 1) y0 y1 y2 y3)) ∧ (∀ y0 y1 y2 y3 y4, LeO (redactorlaw04_CodecAlike.l0 k y0 y1 y2 y3 y4) (redactorlaw04_CodecAlike.l0 (k + 1) y0 y1 y2 y3 y4)) ∧ (∀ y0 y1 y2 y3 y4 y5 y6 y7 y8, LeO (redactorlaw04_CodecAlike.j2 k y0 y1 y2 y3 y4 y5 y6 y7 y8) (redactorlaw04_CodecAlike.j2 (k + 1) y0 y1 y2 y3 y4 y5 y6 y7 y8)) ∧ (∀ y0 y1 y2 y3 y4 y5 y6 y7 y8 y9 y10 y11 y12 y13 y14 y15 y16 y17 y18, LeO (redactorlaw04_CodecAlike.j3 k y0 y1 y2 y3 y4 y5 y6 y7 y8 y9 y10 y11 y12 y13 y14 y15 y16 y17 y18) (redactorlaw04_CodecAlike.j3 (k + 1) y0 y1 y2 y3 y4 y5 y6 y7 y8 y9 y10 y11 y12 y13 y14 y15 y16 y17 y18))
  | 0 => ⟨fun _ _ _ _ r h => by simp [redactorlaw04_CodecAlike.j0] at h, fun _ _ _ _ _ r h => by simp [redactorlaw04_CodecAlike.l0] at h, fun _ _ _ _ _ _ _ _ _ r h => by simp [redactorlaw04_CodecAlike.j2] at h, fun _ _ _ _ _ _ _ _ _ _ _ _ _ _ _ _ _ _ _ r h => by simp [redactorlaw04_CodecAlike.j3] at h⟩
  | k + 1 => by
    obtain ⟨ih0, ih1, ih2, ih3⟩ := redactorlaw04_CodecAlike.mono_l k
    refine ⟨?_, ?_, ?_, ?_⟩
    · intro y0 y1 y2 y3
      unfold redactorlaw04_CodecAlike.j0
      repeat' first
      | (with_reducible exact ih0 _ _ _ _)
      | (with_reducible exact ih1 _ _ _ _ _)
      | (with_reducible exact ih2 _ _ _ _ _ _ _ _ _)
      | (with_reducible exact ih3 _ _ _ _ _ _ _ _ _ _ _ _ _ _ _ _ _ _ _)
      | (with_reducible exact codec_Decode.mono _ _ _)
      | (with_reducible exact codec_Encode.mono _ _ _ _ _)
      | (with_reducible exact redactorlaw04_known.mono _)
      | (with_reducible exact redactorref01_Same.mono _ _ _)
      | (with_reducible exact LeO.refl _)
      | (with_reducible exact LeO.none _)
      | (with_reducible refine LeO.ite ?_ ?_)
      | (with_reducible refine LeO.bind ?_ (fun _ => ?_))
      | exact ih0 _ _ _ _
      | exact ih1 _ _ _ _ _
      | exact ih2 _ _ _ _ _ _ _ _ _
      | exact ih3 _ _ _ _ _ _ _ _ _ _ _ _ _ _ _ _ _ _ _
      | exact codec_Decode.mono _ _ _
      | exact codec_Encode.mono _ _ _ _ _
      | exact redactorlaw04_known.mono _
      | exact redactorref01_Same.mono _ _ _
      | exact LeO.none _
      | refine LeO.ite ?_ ?_
      | refine LeO.bind ?_ (fun _ => ?_)
    · intro y0 y1 y2 y3 y4
      unfold redactorlaw04_CodecAlike.l0
      repeat' first
      | (with_reducible exact ih0 _ _ _ _)
      | (with_reducible exact ih1 _ _ _ _ _)
      | (with_reducible exact ih2 _ _ _ _ _ _ _ _ _)
      | (with_reducible exact ih3 _ _ _ _ _ _ _ _ _ _ _ _ _ _ _ _ _ _ _)
      | (with_reducible exact codec_Decode.mono _ _ _)
      | (with_reducible exact codec_Encode.mono _ _ _ _ _)
      | (with_reducible exact redactorlaw04_known.mono _)
      | (with_reducible exact redactorref01_Same.mono _ _ _)
      | (with_reducible exact LeO.refl _)
      | (with_reducible exact LeO.none _)
      | (with_reducible refine LeO.ite ?_ ?_)
      | (with_reducible refine LeO.bind ?_ (fun _ => ?_))
      | exact ih0 _ _ _ _
      | exact ih1 _ _ _ _ _
      | exact ih2 _ _ _ _ _ _ _ _ _
      | exact ih3 _ _ _ _ _ _ _ _ _ _ _ _ _ _ _ _ _ _ _
      | exact codec_Decode.mono _ _ _
      | exact codec_Encode.mono _ _ _ _ _
      | exact redactorlaw04_known.mono _
      | exact redactorref01_Same.mono _ _ _
      | exact LeO.none _
      | refine LeO.ite ?_ ?_
      | refine LeO.bind ?_ (fun _ => ?_)
    · intro y0 y1 y2 y3 y4 y5 y6 y7 y8
      unfold redactorlaw04_CodecAlike.j2
      repeat' first
      | (with_reducible exact ih0 _ _ _ _)
      | (with_reducible exact ih1 _ _ _ _ _)
      | (with_reducible exact ih2 _ _ _ _ _ _ _ _ _)
      | (with_reducible exact ih3 _ _ _ _ _ _ _ _ _ _ _ _ _ _ _ _ _ _ _)
      | (with_reducible exact codec_Decode.mono _ _ _)
      | (with_reducible exact codec_Encode.mono _ _ _ _ _)
      | (with_reducible exact redactorlaw04_known.mono _)
      | (with_reducible exact redactorref01_Same.mono _ _ _)
      | (with_reducible exact LeO.refl _)
      | (with_reducible exact LeO.none _)
      | (with_reducible refine LeO.ite ?_ ?_)
      | (with_reducible refine LeO.bind ?_ (fun _ => ?_))
      | exact ih0 _ _ _ _
      | exact ih1 _ _ _ _ _
      | exact ih2 _ _ _ _ _ _ _ _ _
      | exact ih3 _ _ _ _ _ _ _ _ _ _ _ _ _ _ _ _ _ _ _
      | exact codec_Decode.mono _ _ _
      | exact codec_Encode.mono _ _ _ _ _
      | exact redactorlaw04_known.mono _
      | exact redactorref01_Same.mono _ _ _
      | exact LeO.none _
      | refine LeO.ite ?_ ?_
      | refine LeO.bind ?_ (fun _ => ?_)
    · intro y0 y1 y2 y3 y4 y5 y6 y7 y8 y9 y10 y11 y12 y13 y14 y15 y16 y17 y18
      unfold redactorlaw04_CodecAlike.j3
      repeat' first
      | (with_reducible exact ih0 _ _ _ _)
      | (with_reducible exact ih1 _ _ _ _ _)
      | (with_reducible exact ih2 _ _ _ _ _ _ _ _ _)
      | (with_reducible exact ih3 _ _ _ _ _ _ _ _ _ _ _ _ _ _ _ _ _ _ _)
      | (with_reducible exact codec_Decode.mono _ _ _)
      | (with_reducible exact codec_Encode.mono _ _ _ _ _)
      | (with_reducible exact redactorlaw04_known.mono _)
      | (with_reducible exact redactorref01_Same.mono _ _ _)
      | (with_reducible exact LeO.refl _)
      | (with_reducible exact LeO.none _)
      | (with_reducible refine LeO.ite ?_ ?_)
      | (with_reducible refine LeO.bind ?_ (fun _ => ?_))
      | exact ih0 _ _ _ _
      | exact ih1 _ _ _ _ _
      | exact ih2 _ _ _ _ _ _ _ _ _
      | exact ih3 _ _ _ _ _ _ _ _ _ _ _ _ _ _ _ _ _ _ _
      | exact codec_Decode.mono _ _ _
      | exact codec_Encode.mono _ _ _ _ _
      | exact redactorlaw04_known.mono _
      | exact redactorref01_Same.mono _ _ _
      | exact LeO.none _
      | refine LeO.ite ?_ ?_
      | refine LeO.bind ?_ (fun _ => ?_)
theorem redactorlaw04_CodecAlike.mono : ∀ a0 a1 a2 k, LeO (redactorlaw04_CodecAlike.f k a0 a1 a2) (redactorlaw04_CodecAlike.f (k + 1) a0 a1 a2) := by
  intro a0 a1 a2 k
  obtain ⟨ih0, ih1, ih2, ih3⟩ := redactorlaw04_CodecAlike.mono_l k
  unfold redactorlaw04_CodecAlike.f
  repeat' first
      | (with_reducible exact ih0 _ _ _ _)
      | (with_reducible exact ih1 _ _ _ _ _)
      | (with_reducible exact ih2 _ _ _ _ _ _ _ _ _)
      | (with_reducible exact ih3 _ _ _ _ _ _ _ _ _ _ _ _ _ _ _ _ _ _ _)
      | (with_reducible exact codec_Decode.mono _ _ _)
      | (with_reducible exact codec_Encode.mono _ _ _ _ _)
      | (with_reducible exact redactorlaw04_known.mono _)
      | (with_reducible exact redactorref01_Same.mono _ _ _)
      | (with_reducible exact LeO.refl _)
      | (with_reducible exact LeO.none _)
      | (with_reducible refine LeO.ite ?_ ?_)
      | (with_reducible refine LeO.bind ?_ (fun _ => ?_))
      | exact ih0 _ _ _ _
      | exact ih1 _ _ _ _ _
      | exact ih2 _ _ _ _ _ _ _ _ _
      | exact ih3 _ _ _ _ _ _ _ _ _ _ _ _ _ _ _ _ _ _ _
      | exact codec_Decode.mono _ _ _
      | exact codec_Encode.mono _ _ _ _ _
      | exact redactorlaw04_known.mono _
      | exact redactorref01_Same.mono _ _ _
      | exact LeO.none _
      | refine LeO.ite ?_ ?_
      | refine LeO.bind ?_ (fun _ => ?_)
set_option maxHeartbeats 8000000 in
set_option maxRecDepth 100000 in
theorem redactorlaw04_CodecAlike.calls (k : Nat) (A0 : Option Addr) (c0 : Nat) (l0 : List Int) (a1 : Bool) (a2 : Bool) (r : Bool) (w : World) (hr0 : Kd.C (Kd.int .u8) w A0 l0.length l0) (hc0 : l0.length ≤ c0) (hGL : (Lib.Utf8Tabs 0 1) w) (hrt : Aside0 (r = true)) (h : redactorlaw04_CodecAlike.f k l0 a1 a2 = some r) :
    Calls Tryd.prog 5 #[.slice A0 l0.length c0, .bool a1, .bool a2] w fun e w' => e = .returned (.bool r) ∧ Below w.heap.size w w' := by
  have hu29 := Tryd.underlying29
  have HR0 := Aside0.mk hr0
  have HC0 := Aside0.mk hc0
  clear hr0 hc0
  have HB := Aside0.mk (Below.refl w.heap.size w)
  have HGL := Aside0.mk hGL
  clear hGL
  have H : (if (l0.length : Int) > 200 then (redactorlaw04_CodecAlike.j0 k l0 a1 a2 true) else ((redactorlaw04_known.f k).bind fun t161 => (redactorlaw04_CodecAlike.j0 k l0 a1 a2 (!t161)))) = some r := h
  clear h
  have HC4 := Aside0.mk H
  clear H
  go_enter Tryd.func5, Tryd.ntmps5
  go_upto_region 1 with (fail)
  go_cut [27] (fun v27 wc => ∃ (kq : Nat) (x27_3 : Bool), v27 = .bool x27_3 ∧ Aside0 (redactorlaw04_CodecAlike.j0 kq l0 a1 a2 x27_3 = some r) ∧ Aside0 (kq ≤ k) ∧ Aside0 (Below w.heap.size w wc))
  case first =>
    have H := HC4.out
    clear HC4
    by_cases c5 : (l0.length : Int) > 200
    · rw [if_pos c5] at H
      have c5b0 : decide (200 < (l0.length : Int)) = true := decide_eq_true c5
      have c5b1 : decide (200 < l0.length) = true := decide_eq_true (by omega)
      clear c5
      (first | rw [c5b0] | (simp only [i64_w, i32_w]; rw [c5b0]) | skip)
      have H' := Aside0.mk H
      clear H
      go_wp2
      go_meet
      case rel => exact ⟨_, (true), (by first | rfl | (simp; done) | (simp [*]; done)), H', ⟨by first | omega | exact Nat.le_refl _⟩, ⟨by repeat (first | (with_reducible first | exact HB.out | apply below_alloc | apply pw_below_drewN | apply below_drew1) | exact HB.out)⟩⟩
    · rw [if_neg c5] at H
      have c5b0 : decide (200 < (l0.length : Int)) = false := decide_eq_false c5
      have c5b1 : decide (200 < l0.length) = false := decide_eq_false (by omega)
      clear c5
      (first | rw [c5b0] | (simp only [i64_w, i32_w]; rw [c5b0]) | skip)
      replace H := Option.bind_eq_some_iff.mp H
      obtain ⟨t161, A60, H⟩ := H
      replace H : (redactorlaw04_CodecAlike.j0 k l0 a1 a2 (!t161)) = some r := H
      have A6 := Aside0.mk A60
      clear A60
      have H' := Aside0.mk H
      clear H
      go_wp2_with (first | (go_at_call 9; (with_reducible refine (redactorlaw04_known.calls k  t161 _ ?side1 A6.out).mono ?_); (case side1 => refine gl_below HGL.out ?_; repeat (first | (with_reducible first | exact HB.out | apply below_alloc | apply pw_below_drewN | apply below_drew1) | exact HB.out)); rintro e w7 ⟨rfl, hb⟩; have n0_ := Aside0.mk (below_step (by repeat (first | (with_reducible first | exact HB.out | apply below_alloc | apply pw_below_drewN | apply below_drew1) | exact HB.out)) hb); clear HB; have HB := n0_; clear n0_; (try clear hb); (try clear hb2); (try clear hk); (try clear hi); (try clear A6)))
      go_meet
      case rel => exact ⟨_, (!t161), (by first | rfl | (simp; done) | (simp [*]; done)), H', ⟨by first | omega | exact Nat.le_refl _⟩, ⟨by repeat (first | (with_reducible first | exact HB.out | apply below_alloc | apply pw_below_drewN | apply below_drew1) | exact HB.out)⟩⟩
  case rest =>
    clear HC4
    try clear p2
    try clear c5
    try clear c5b0
    try clear c5b1
    obtain ⟨kq, x27_3, rfl, HA, HJ3, HB⟩ := hcut
    cases kq with
    | zero => exact absurd HA.out (by simp [redactorlaw04_CodecAlike.j0])
    | succ kj3 =>
      have H := HA.out
      clear HA
      simp only [redactorlaw04_CodecAlike.j0] at H
      by_cases c8 : x27_3 = true
      · subst c8
        have H1 : ((redactorlaw04_known.f kj3).bind fun t162 => (some t162)) = some r := by rw [if_pos rfl] at H; exact H
        clear H
        have H := H1
        clear H1
        replace H := Option.bind_eq_some_iff.mp H
        obtain ⟨t162, A90, H⟩ := H
        replace H : (some t162) = some r := H
        have A9 := Aside0.mk A90
        clear A90
        obtain rfl := Option.some.inj H
        go_wp2_with (first | ((with_reducible refine gate_callee (f := 9) rfl ?_); refine goesL_ (some 28) rfl rfl Tryd.func9 (by kernel_rfl) rfl #[] rfl (by (try simp only [List.map_toArray, List.map_cons, List.map_nil]); first | done | rfl | (simp only [List.length_drop, List.length_take]; rfl)) ?_; (with_reducible refine (redactorlaw04_known.calls kj3  t162 _ ?side1 A9.out).mono ?_); (case side1 => refine gl_below HGL.out ?_; repeat (first | (with_reducible first | exact HB.out | apply below_alloc | apply pw_below_drewN | apply below_drew1) | exact HB.out)); rintro e w10 ⟨rfl, hb⟩; refine ⟨_, rfl, ?_⟩; have n0_ := Aside0.mk (below_step (by repeat (first | (with_reducible first | exact HB.out | apply below_alloc | apply pw_below_drewN | apply below_drew1) | exact HB.out)) hb); clear HB; have HB := n0_; clear n0_; (try clear hb); (try clear hb2); (try clear hk); (try clear hi)))
        all_goals go_ret
        all_goals exact ⟨by first | rfl | (simp [errW_none, errW_some] <;> rfl) | (simp [*, errW_none, errW_some] <;> rfl), by repeat (first | (with_reducible first | exact HB.out | apply below_alloc | apply pw_below_drewN | apply below_drew1) | exact HB.out)⟩
      · replace c8 := Bool.eq_false_iff.mpr c8
        subst c8
        have H1 : (redactorlaw04_CodecAlike.l0 kj3 l0 a1 a2 ([] : List Int) 0) = some r := by rw [if_neg (show ¬ (false = true) by decide)] at H; exact H
        clear H
        have H := H1
        clear H1
        have H' := Aside0.mk H
        clear H
        go_wp2
        go_loopg [7, 8] kj3 (fun kq v7 v8 w' => ∃ (x7_2 : List Int) (x8_2 : Int), v8 = .int .i64 x8_2 ∧ Aside0 (redactorlaw04_CodecAlike.l0 kq l0 a1 a2 x7_2 x8_2 = some r) ∧ Aside0 (kq ≤ kj3) ∧ Aside0 (Kd.R (Kd.int .i32) 37 w' w.heap.size (fun _ => True) v7 x7_2) ∧ Aside0 (Below w.heap.size w w'))
        case atStart => exact ⟨(([] : List Int)), (0), (by first | rfl | (simp; done) | (simp [*]; done)), H', ⟨Nat.le_refl _⟩, ⟨by first | exact Kd.R_nil _ _ _ _ _ | exact Kd.N_nil _ _ _ _ _ | exact Kd.V_nil _ _ _ _ _ | exact Kd.Q_nil _ _ _ _ _ | exact Kd.S_nil _ _ _ _ _⟩, ⟨by repeat (first | (with_reducible first | exact HB.out | apply below_alloc | apply pw_below_drewN | apply below_drew1) | exact HB.out)⟩⟩
        case round =>
          clear H'
          try clear p2
          try clear c5
          try clear c5b0
          try clear c5b1
          try clear c8
          try clear c9
          try clear p2
          obtain ⟨x7_2, x8_2, rfl, HA, HK2, HO_7, HB⟩ := hrel
          cases gk with
          | zero => exact absurd HA.out (by simp [redactorlaw04_CodecAlike.l0])
          | succ k2 =>
            have H := HA.out
            clear HA
            simp only [redactorlaw04_CodecAlike.l0] at H
            by_cases c11 : x8_2 < (l0.length : Int)
            · rw [if_pos c11] at H
              have c11b0 : decide (x8_2 < (l0.length : Int)) = true := decide_eq_true c11
              clear c11
              by_cases c12 : 0 ≤ x8_2
              · rw [if_pos c12] at H
                have c12b0 : decide (0 ≤ x8_2) = true := decide_eq_true c12
                clear c12
                by_cases c13 : x7_2.length < 35184372088832
                · rw [if_pos c13] at H
                  have LMc13 := Aside0.mk c13
                  clear c13
                  obtain ⟨y164, hy164⟩ : ∃ y_ : List Int, y_ = (x7_2 ++ [wrap32 (rd l0 x8_2)]) := ⟨_, rfl⟩
                  replace H : (redactorlaw04_CodecAlike.l0 k2 l0 a1 a2 y164 (wrap64 (x8_2 + 1))) = some r := by first | (rw [hy164]; with_reducible exact H) | (have H2_ := (Option.bind_some _ _).symm.trans H; rw [hy164]; with_reducible exact H2_) | (have H2_ := (Option.bind_some _ _).symm.trans H; with_reducible exact H2_) | with_reducible exact H | (rw [hy164]; exact H) | exact H
                  have Ny164 := Aside0.mk hy164
                  clear hy164
                  have H' := Aside0.mk H
                  clear H
                  have p163 : 0 ≤ (x8_2 : Int) := of_decide_eq_true (by first | (with_reducible assumption) | assumption)
                  have q163 : x8_2 < (l0.length : Int) := of_decide_eq_true (by first | (with_reducible assumption) | assumption)
                  obtain ⟨ad163, e163, hx163_0⟩ := Kd.at_int HR0.out x8_2 p163 q163
                  cases e163
                  replace hx163_0 := (HB.out.cell (World.block_lt_of_cell? w _ hx163_0)).trans hx163_0
                  replace p163 := eq_true p163
                  replace q163 := eq_true q163
                  go_wp2_with (first | ((with_reducible refine gate_builtin (b := .append) (xs := #[.tmp 35, .tmp 41]) rfl ?_); (try (refine gate_guard (by rfl) ?_; dsimp only)); at_builtin; refine Kd.R_append (Kd.int .i32) (w0 := w) w.heap.size rfl (.tmp 35) (.tmp 41) 27 37 (.int .i32 0) 4 rfl Tryd.underlying27 info37 rfl (by decide) (by omega) u7 x7_2 (wrap32 (rd l0 x8_2)) [.int .i32 (wrap32 (rd l0 x8_2))] (fun _ => True) (fun _ => False) rfl rfl ?aP (fun _ hk => hk.elim) ?aF ?aO ?aB ?aS ?aL ?_; (case aP => exact rfl); (case aB => exact (by repeat (first | (with_reducible first | exact HB.out | apply below_alloc | apply pw_below_drewN | apply below_drew1) | exact HB.out))); (case aF => exact (fun _ _ => trivial)); (case aO => exact (by (with_reducible repeat (first | apply Kd.R_alloc | apply Kd.R_drewN | apply Kd.R_drew)); exact HO_7.out)); (case aS => exact (below_size (by repeat (first | (with_reducible first | exact HB.out | apply below_alloc | apply pw_below_drewN | apply below_drew1) | exact HB.out)))); (case aL => have := LMc13.out; omega); intro v165 w14 ho hb hg hat; rw [← Ny164.out] at ho; have n0_ := Aside0.mk (hb); have n1_ := Aside0.mk (ho); clear HB; clear HO_7; have HB := n0_; have HO166 := n1_; clear n0_ n1_; clear ho hb hg hat))
                  go_roundg k2
                  case measure => have := HJ3.out; have := HK2.out; omega
                  case rel => exact ⟨(y164), (wrap64 (x8_2 + 1)), (by first | rfl | (simp; done) | (simp [*]; done)), H', ⟨by have := HJ3.out; have := HK2.out; omega⟩, ⟨by (with_reducible repeat (first | apply Kd.R_alloc | apply Kd.R_drewN | apply Kd.R_drew)); exact HO166.out⟩, ⟨by repeat (first | (with_reducible first | exact HB.out | apply below_alloc | apply pw_below_drewN | apply below_drew1) | exact HB.out)⟩⟩
                · rw [if_neg c13] at H
                  exact absurd H (by simp)
              · rw [if_neg c12] at H
                exact absurd H (by simp)
            · rw [if_neg c11] at H
              have c11b0 : decide (x8_2 < (l0.length : Int)) = false := decide_eq_false c11
              clear c11
              replace H := Option.bind_eq_some_iff.mp H
              obtain ⟨⟨t167, t170⟩, A150, H⟩ := H
              replace H : ((codec_Encode.f k2 1 false false x7_2).bind fun bt171 => (if a1 = true then ((codec_Encode.f k2 2 true a2 x7_2).bind fun bt175 => (redactorlaw04_CodecAlike.j2 k2 l0 a2 x7_2 t167 t170 bt171.1 bt171.2 bt175.1 bt175.2)) else ((codec_Encode.f k2 2 (!a2) a2 x7_2).bind fun bt179 => (redactorlaw04_CodecAlike.j2 k2 l0 a2 x7_2 t167 t170 bt171.1 bt171.2 bt179.1 bt179.2)))) = some r := H
              have A15 := Aside0.mk A150
              clear A150
              replace H := Option.bind_eq_some_iff.mp H
              obtain ⟨⟨t171, t174⟩, A160, H⟩ := H
              replace H : (if a1 = true then ((codec_Encode.f k2 2 true a2 x7_2).bind fun bt175 => (redactorlaw04_CodecAlike.j2 k2 l0 a2 x7_2 t167 t170 t171 t174 bt175.1 bt175.2)) else ((codec_Encode.f k2 2 (!a2) a2 x7_2).bind fun bt179 => (redactorlaw04_CodecAlike.j2 k2 l0 a2 x7_2 t167 t170 t171 t174 bt179.1 bt179.2))) = some r := H
              have A16 := Aside0.mk A160
              clear A160
              have HC17 := Aside0.mk H
              clear H
              obtain ⟨Ao18, co18, eo18⟩ := Kd.R_slice HO_7.out
              subst eo18
              go_upto_region 10 with (first | ((with_reducible refine gate_callee (f := 13) rfl ?_); refine goesL_ (some 46) rfl rfl Tryd.func13 (by kernel_rfl) rfl #[.agg #[.int .u8 3, .bool false, .bool false, .slice Ao18 x7_2.length co18]] rfl (by (try simp only [List.map_toArray, List.map_cons, List.map_nil]); first | done | rfl | (simp only [List.length_drop, List.length_take]; rfl)) ?_; (with_reducible refine (codec_Encode.calls k2 3 false false _ _ x7_2 t167 t170 _ ?side1 ?side2 A15.out).mono ?_); (case side1 => repeat (first | exact (Kd.R_reads' HO_7.out).2.2 | (with_reducible refine Kd.C_alloc ?_ _) | (with_reducible refine Kd.C_drewN ?_ _) | (with_reducible refine Kd.C_drew ?_))); (case side2 => exact (Kd.R_reads' HO_7.out).2.1); rintro e w19 ⟨v168, rfl, ho0, hb⟩; refine ⟨_, rfl, ?_⟩; have n0_ := Aside0.mk (Kd.R_below (by (with_reducible repeat (first | apply Kd.R_alloc | apply Kd.R_drewN | apply Kd.R_drew)); exact HO_7.out) hb); have n1_ := Aside0.mk (Kd.R_lower ho0 (below_size (by repeat (first | (with_reducible first | exact HB.out | apply below_alloc | apply pw_below_drewN | apply below_drew1) | exact HB.out)))); have n2_ := Aside0.mk (below_step (by repeat (first | (with_reducible first | exact HB.out | apply below_alloc | apply pw_below_drewN | apply below_drew1) | exact HB.out)) hb); clear HO_7; clear HB; have HO_7 := n0_; have HO169 := n1_; have HB := n2_; clear n0_ n1_ n2_; (try clear hb); (try clear hb2); (try clear hk); (try clear hi); (try clear ho0)) | ((with_reducible refine gate_callee (f := 13) rfl ?_); refine goesL_ (some 52) rfl rfl Tryd.func13 (by kernel_rfl) rfl #[.agg #[.int .u8 1, .bool false, .bool false, .slice Ao18 x7_2.length co18]] rfl (by (try simp only [List.map_toArray, List.map_cons, List.map_nil]); first | done | rfl | (simp only [List.length_drop, List.length_take]; rfl)) ?_; (with_reducible refine (codec_Encode.calls k2 1 false false _ _ x7_2 t171 t174 _ ?side1 ?side2 A16.out).mono ?_); (case side1 => repeat (first | exact (Kd.R_reads' HO_7.out).2.2 | (with_reducible refine Kd.C_alloc ?_ _) | (with_reducible refine Kd.C_drewN ?_ _) | (with_reducible refine Kd.C_drew ?_))); (case side2 => exact (Kd.R_reads' HO_7.out).2.1); rintro e w20 ⟨v172, rfl, ho0, hb⟩; refine ⟨_, rfl, ?_⟩; have n0_ := Aside0.mk (Kd.R_below (by (with_reducible repeat (first | apply Kd.R_alloc | apply Kd.R_drewN | apply Kd.R_drew)); exact HO_7.out) hb); have n1_ := Aside0.mk (Kd.R_elder' (by (with_reducible repeat (first | apply Kd.R_alloc | apply Kd.R_drewN | apply Kd.R_drew)); exact HO169.out) (Kd.R_base ho0) hb); have n2_ := Aside0.mk (Kd.R_lower (Kd.R_new' ho0 (Kd.R_lt (by (with_reducible repeat (first | apply Kd.R_alloc | apply Kd.R_drewN | apply Kd.R_drew)); exact HO169.out))) (below_size (by repeat (first | (with_reducible first | exact HB.out | apply below_alloc | apply pw_below_drewN | apply below_drew1) | exact HB.out)))); have n3_ := Aside0.mk (below_step (by repeat (first | (with_reducible first | exact HB.out | apply below_alloc | apply pw_below_drewN | apply below_drew1) | exact HB.out)) hb); clear HO_7; clear HO169; clear HB; have HO_7 := n0_; have HO169 := n1_; have HO173 := n2_; have HB := n3_; clear n0_ n1_ n2_ n3_; (try clear hb); (try clear hb2); (try clear hk); (try clear hi); (try clear ho0)))
              (try simp only [Act.put, List.setIfInBounds_toArray, List.set_cons_zero, List.set_cons_succ])
              go_cut [13, 14] (fun v13 v14 wc => ∃ (kq : Nat) (x13_16 : List Int) (x14_16 : Int), v14 = .int .u16 x14_16 ∧ Aside0 (redactorlaw04_CodecAlike.j2 kq l0 a2 x7_2 t167 t170 t171 t174 x13_16 x14_16 = some r) ∧ Aside0 (kq ≤ k2) ∧ Aside0 (Kd.R (Kd.int .i32) 37 wc w.heap.size (fun _ => True) (.slice Ao18 x7_2.length co18) x7_2) ∧ Aside0 (Kd.R (Kd.int .u8) 5 wc w.heap.size (fun k_ => some k_ ≠ (v172 : Value).ownBlock) v168 t167) ∧ Aside0 (Kd.R (Kd.int .u8) 5 wc w.heap.size (fun k_ => some k_ ≠ (v168 : Value).ownBlock) v172 t171) ∧ Aside0 (Kd.R (Kd.int .u8) 5 wc w.heap.size (fun _ => True) v13 x13_16) ∧ Aside0 (Below w.heap.size w wc))
              case first =>
                have H := HC17.out
                clear HC17
                by_cases c21 : a1 = true
                · subst c21
                  have H1 : ((codec_Encode.f k2 2 true a2 x7_2).bind fun bt175 => (redactorlaw04_CodecAlike.j2 k2 l0 a2 x7_2 t167 t170 t171 t174 bt175.1 bt175.2)) = some r := by rw [if_pos rfl] at H; exact H
                  clear H
                  have H := H1
                  clear H1
                  replace H := Option.bind_eq_some_iff.mp H
                  obtain ⟨⟨t175, t178⟩, A220, H⟩ := H
                  replace H : (redactorlaw04_CodecAlike.j2 k2 l0 a2 x7_2 t167 t170 t171 t174 t175 t178) = some r := H
                  have A22 := Aside0.mk A220
                  clear A220
                  have H' := Aside0.mk H
                  clear H
                  go_wp2_with (first | ((with_reducible refine gate_callee (f := 13) rfl ?_); refine goesL_ (some 64) rfl rfl Tryd.func13 (by kernel_rfl) rfl #[.agg #[.int .u8 2, .bool true, .bool a2, .slice Ao18 x7_2.length co18]] rfl (by (try simp only [List.map_toArray, List.map_cons, List.map_nil]); first | done | rfl | (simp only [List.length_drop, List.length_take]; rfl)) ?_; (with_reducible refine (codec_Encode.calls k2 2 true a2 _ _ x7_2 t175 t178 _ ?side1 ?side2 A22.out).mono ?_); (case side1 => repeat (first | exact (Kd.R_reads' HO_7.out).2.2 | (with_reducible refine Kd.C_alloc ?_ _) | (with_reducible refine Kd.C_drewN ?_ _) | (with_reducible refine Kd.C_drew ?_))); (case side2 => exact (Kd.R_reads' HO_7.out).2.1); rintro e w23 ⟨v176, rfl, ho0, hb⟩; refine ⟨_, rfl, ?_⟩; have n0_ := Aside0.mk (Kd.R_below (by (with_reducible repeat (first | apply Kd.R_alloc | apply Kd.R_drewN | apply Kd.R_drew)); exact HO_7.out) hb); have n1_ := Aside0.mk (Kd.R_elder' (by (with_reducible repeat (first | apply Kd.R_alloc | apply Kd.R_drewN | apply Kd.R_drew)); exact HO169.out) (Kd.R_base ho0) hb); have n2_ := Aside0.mk (Kd.R_elder' (by (with_reducible repeat (first | apply Kd.R_alloc | apply Kd.R_drewN | apply Kd.R_drew)); exact HO173.out) (Kd.R_base ho0) hb); have n3_ := Aside0.mk (Kd.R_lower (Kd.R_new' (Kd.R_new' ho0 (Kd.R_lt (by (with_reducible repeat (first | apply Kd.R_alloc | apply Kd.R_drewN | apply Kd.R_drew)); exact HO169.out))) (Kd.R_lt (by (with_reducible repeat (first | apply Kd.R_alloc | apply Kd.R_drewN | apply Kd.R_drew)); exact HO173.out))) (below_size (by repeat (first | (with_reducible first | exact HB.out | apply below_alloc | apply pw_below_drewN | apply below_drew1) | exact HB.out)))); have n4_ := Aside0.mk (below_step (by repeat (first | (with_reducible first | exact HB.out | apply below_alloc | apply pw_below_drewN | apply below_drew1) | exact HB.out)) hb); clear HO_7; clear HO169; clear HO173; clear HB; have HO_7 := n0_; have HO169 := n1_; have HO173 := n2_; have HO177 := n3_; have HB := n4_; clear n0_ n1_ n2_ n3_ n4_; (try clear hb); (try clear hb2); (try clear hk); (try clear hi); (try clear ho0)))
                  go_meet
                  case rel => exact ⟨_, (t175), (t178), (by first | rfl | (simp; done) | (simp [*]; done)), H', ⟨by have := HJ3.out; have := HK2.out; first | omega | exact Nat.le_refl _⟩, ⟨by (with_reducible repeat (first | apply Kd.R_alloc | apply Kd.R_drewN | apply Kd.R_drew)); exact HO_7.out⟩, ⟨by (with_reducible repeat (first | apply Kd.R_alloc | apply Kd.R_drewN | apply Kd.R_drew)); exact Kd.R_mono HO169.out (fun _ hk => by first | exact ⟨hk.1.2, hk.2⟩ | exact hk.1.2 | exact hk.2 | exact hk.1.1 | trivial)⟩, ⟨by (with_reducible repeat (first | apply Kd.R_alloc | apply Kd.R_drewN | apply Kd.R_drew)); exact Kd.R_mono HO173.out (fun _ hk => by first | exact ⟨hk.1.2, hk.2⟩ | exact hk.1.2 | exact hk.2 | exact hk.1.1 | trivial)⟩, ⟨by (with_reducible repeat (first | apply Kd.R_alloc | apply Kd.R_drewN | apply Kd.R_drew)); exact Kd.R_mono HO177.out (fun _ hk => by first | exact ⟨hk.1.2, hk.2⟩ | exact hk.1.2 | exact hk.2 | exact hk.1.1 | trivial)⟩, ⟨by repeat (first | (with_reducible first | exact HB.out | apply below_alloc | apply pw_below_drewN | apply below_drew1) | exact HB.out)⟩⟩
                · replace c21 := Bool.eq_false_iff.mpr c21
                  subst c21
                  have H1 : ((codec_Encode.f k2 2 (!a2) a2 x7_2).bind fun bt179 => (redactorlaw04_CodecAlike.j2 k2 l0 a2 x7_2 t167 t170 t171 t174 bt179.1 bt179.2)) = some r := by rw [if_neg (show ¬ (false = true) by decide)] at H; exact H
                  clear H
                  have H := H1
                  clear H1
                  replace H := Option.bind_eq_some_iff.mp H
                  obtain ⟨⟨t179, t182⟩, A240, H⟩ := H
                  replace H : (redactorlaw04_CodecAlike.j2 k2 l0 a2 x7_2 t167 t170 t171 t174 t179 t182) = some r := H
                  have A24 := Aside0.mk A240
                  clear A240
                  have H' := Aside0.mk H
                  clear H
                  go_wp2_with (first | ((with_reducible refine gate_callee (f := 13) rfl ?_); refine goesL_ (some 64) rfl rfl Tryd.func13 (by kernel_rfl) rfl #[.agg #[.int .u8 2, .bool (!a2), .bool a2, .slice Ao18 x7_2.length co18]] rfl (by (try simp only [List.map_toArray, List.map_cons, List.map_nil]); first | done | rfl | (simp only [List.length_drop, List.length_take]; rfl)) ?_; (with_reducible refine (codec_Encode.calls k2 2 (!a2) a2 _ _ x7_2 t179 t182 _ ?side1 ?side2 A24.out).mono ?_); (case side1 => repeat (first | exact (Kd.R_reads' HO_7.out).2.2 | (with_reducible refine Kd.C_alloc ?_ _) | (with_reducible refine Kd.C_drewN ?_ _) | (with_reducible refine Kd.C_drew ?_))); (case side2 => exact (Kd.R_reads' HO_7.out).2.1); rintro e w25 ⟨v180, rfl, ho0, hb⟩; refine ⟨_, rfl, ?_⟩; have n0_ := Aside0.mk (Kd.R_below (by (with_reducible repeat (first | apply Kd.R_alloc | apply Kd.R_drewN | apply Kd.R_drew)); exact HO_7.out) hb); have n1_ := Aside0.mk (Kd.R_elder' (by (with_reducible repeat (first | apply Kd.R_alloc | apply Kd.R_drewN | apply Kd.R_drew)); exact HO169.out) (Kd.R_base ho0) hb); have n2_ := Aside0.mk (Kd.R_elder' (by (with_reducible repeat (first | apply Kd.R_alloc | apply Kd.R_drewN | apply Kd.R_drew)); exact HO173.out) (Kd.R_base ho0) hb); have n3_ := Aside0.mk (Kd.R_lower (Kd.R_new' (Kd.R_new' ho0 (Kd.R_lt (by (with_reducible repeat (first | apply Kd.R_alloc | apply Kd.R_drewN | apply Kd.R_drew)); exact HO169.out))) (Kd.R_lt (by (with_reducible repeat (first | apply Kd.R_alloc | apply Kd.R_drewN | apply Kd.R_drew)); exact HO173.out))) (below_size (by repeat (first | (with_reducible first | exact HB.out | apply below_alloc | apply pw_below_drewN | apply below_drew1) | exact HB.out)))); have n4_ := Aside0.mk (below_step (by repeat (first | (with_reducible first | exact HB.out | apply below_alloc | apply pw_below_drewN | apply below_drew1) | exact HB.out)) hb); clear HO_7; clear HO169; clear HO173; clear HB; have HO_7 := n0_; have HO169 := n1_; have HO173 := n2_; have HO181 := n3_; have HB := n4_; clear n0_ n1_ n2_ n3_ n4_; (try clear hb); (try clear hb2); (try clear hk); (try clear hi); (try clear ho0)))
                  go_meet
                  case rel => exact ⟨_, (t179), (t182), (by first | rfl | (simp; done) | (simp [*]; done)), H', ⟨by have := HJ3.out; have := HK2.out; first | omega | exact Nat.le_refl _⟩, ⟨by (with_reducible repeat (first | apply Kd.R_alloc | apply Kd.R_drewN | apply Kd.R_drew)); exact HO_7.out⟩, ⟨by (with_reducible repeat (first | apply Kd.R_alloc | apply Kd.R_drewN | apply Kd.R_drew)); exact Kd.R_mono HO169.out (fun _ hk => by first | exact ⟨hk.1.2, hk.2⟩ | exact hk.1.2 | exact hk.2 | exact hk.1.1 | trivial)⟩, ⟨by (with_reducible repeat (first | apply Kd.R_alloc | apply Kd.R_drewN | apply Kd.R_drew)); exact Kd.R_mono HO173.out (fun _ hk => by first | exact ⟨hk.1.2, hk.2⟩ | exact hk.1.2 | exact hk.2 | exact hk.1.1 | trivial)⟩, ⟨by (with_reducible repeat (first | apply Kd.R_alloc | apply Kd.R_drewN | apply Kd.R_drew)); exact Kd.R_mono HO181.out (fun _ hk => by first | exact ⟨hk.1.2, hk.2⟩ | exact hk.1.2 | exact hk.2 | exact hk.1.1 | trivial)⟩, ⟨by repeat (first | (with_reducible first | exact HB.out | apply below_alloc | apply pw_below_drewN | apply below_drew1) | exact HB.out)⟩⟩
              case rest =>
                clear HC17
                try clear c1
                try clear p1
                try clear q1
                try clear hx1
                try clear c2
                try clear p2
                try clear p3
                try clear c5
                try clear c5b0
                try clear c5b1
                try clear p6
                try clear c8
                try clear c9
                try clear c11
                try clear c11b0
                try clear c12
                try clear c12b0
                try clear c13
                try clear p16
                try clear q16
                try clear hx16
                try clear c21
                try clear hx163_0
                try clear p163
                try clear p2
                try clear q163
                obtain ⟨kq, x13_16, x14_16, rfl, HA, HJ16, HO_7, HO_9, HO_11, HO_13, HB⟩ := hcut
                cases kq with
                | zero => exact absurd HA.out (by simp [redactorlaw04_CodecAlike.j2])
                | succ kj16 =>
                  have H := HA.out
                  clear HA
                  simp only [redactorlaw04_CodecAlike.j2] at H
                  replace H := Option.bind_eq_some_iff.mp H
                  obtain ⟨⟨t183, t184, t185, t186, t189⟩, A260, H⟩ := H
                  replace H : ((codec_Decode.f kj16 1 t171).bind fun bt191 => ((codec_Decode.f kj16 2 x13_16).bind fun bt199 => (if a2 = true then (redactorlaw04_CodecAlike.j3 kj16 l0 x7_2 t167 t170 t174 x14_16 false t183 t184 t185 t186 bt191.1 bt191.2.1 bt191.2.2.1 bt191.2.2.2.1 bt199.1 bt199.2.1 bt199.2.2.1 bt199.2.2.2.1) else (if (x13_16.length : Int) ≥ 2 then (if 0 < (x13_16.length : Int) then (if (rd x13_16 0) = 255 then (if 1 < (x13_16.length : Int) then (if (rd x13_16 1) = 254 then (redactorlaw04_CodecAlike.j3 kj16 l0 x7_2 t167 t170 t174 x14_16 true t183 t184 t185 t186 bt191.1 bt191.2.1 bt191.2.2.1 bt191.2.2.2.1 bt199.1 bt199.2.1 bt199.2.2.1 bt199.2.2.2.1) else (if (rd x13_16 0) = 254 then (redactorlaw04_CodecAlike.j3 kj16 l0 x7_2 t167 t170 t174 x14_16 ((rd x13_16 1) == 255) t183 t184 t185 t186 bt191.1 bt191.2.1 bt191.2.2.1 bt191.2.2.2.1 bt199.1 bt199.2.1 bt199.2.2.1 bt199.2.2.2.1) else (redactorlaw04_CodecAlike.j3 kj16 l0 x7_2 t167 t170 t174 x14_16 false t183 t184 t185 t186 bt191.1 bt191.2.1 bt191.2.2.1 bt191.2.2.2.1 bt199.1 bt199.2.1 bt199.2.2.1 bt199.2.2.2.1))) else (none)) else (if (rd x13_16 0) = 254 then (if 1 < (x13_16.length : Int) then (redactorlaw04_CodecAlike.j3 kj16 l0 x7_2 t167 t170 t174 x14_16 ((rd x13_16 1) == 255) t183 t184 t185 t186 bt191.1 bt191.2.1 bt191.2.2.1 bt191.2.2.2.1 bt199.1 bt199.2.1 bt199.2.2.1 bt199.2.2.2.1) else (none)) else (redactorlaw04_CodecAlike.j3 kj16 l0 x7_2 t167 t170 t174 x14_16 false t183 t184 t185 t186 bt191.1 bt191.2.1 bt191.2.2.1 bt191.2.2.2.1 bt199.1 bt199.2.1 bt199.2.2.1 bt199.2.2.2.1))) else (none)) else (redactorlaw04_CodecAlike.j3 kj16 l0 x7_2 t167 t170 t174 x14_16 false t183 t184 t185 t186 bt191.1 bt191.2.1 bt191.2.2.1 bt191.2.2.2.1 bt199.1 bt199.2.1 bt199.2.2.1 bt199.2.2.2.1))))) = some r := H
                  have A26 := Aside0.mk A260
                  clear A260
                  replace H := Option.bind_eq_some_iff.mp H
                  obtain ⟨⟨t191, t192, t193, t194, t197⟩, A270, H⟩ := H
                  replace H : ((codec_Decode.f kj16 2 x13_16).bind fun bt199 => (if a2 = true then (redactorlaw04_CodecAlike.j3 kj16 l0 x7_2 t167 t170 t174 x14_16 false t183 t184 t185 t186 t191 t192 t193 t194 bt199.1 bt199.2.1 bt199.2.2.1 bt199.2.2.2.1) else (if (x13_16.length : Int) ≥ 2 then (if 0 < (x13_16.length : Int) then (if (rd x13_16 0) = 255 then (if 1 < (x13_16.length : Int) then (if (rd x13_16 1) = 254 then (redactorlaw04_CodecAlike.j3 kj16 l0 x7_2 t167 t170 t174 x14_16 true t183 t184 t185 t186 t191 t192 t193 t194 bt199.1 bt199.2.1 bt199.2.2.1 bt199.2.2.2.1) else (if (rd x13_16 0) = 254 then (redactorlaw04_CodecAlike.j3 kj16 l0 x7_2 t167 t170 t174 x14_16 ((rd x13_16 1) == 255) t183 t184 t185 t186 t191 t192 t193 t194 bt199.1 bt199.2.1 bt199.2.2.1 bt199.2.2.2.1) else (redactorlaw04_CodecAlike.j3 kj16 l0 x7_2 t167 t170 t174 x14_16 false t183 t184 t185 t186 t191 t192 t193 t194 bt199.1 bt199.2.1 bt199.2.2.1 bt199.2.2.2.1))) else (none)) else (if (rd x13_16 0) = 254 then (if 1 < (x13_16.length : Int) then (redactorlaw04_CodecAlike.j3 kj16 l0 x7_2 t167 t170 t174 x14_16 ((rd x13_16 1) == 255) t183 t184 t185 t186 t191 t192 t193 t194 bt199.1 bt199.2.1 bt199.2.2.1 bt199.2.2.2.1) else (none)) else (redactorlaw04_CodecAlike.j3 kj16 l0 x7_2 t167 t170 t174 x14_16 false t183 t184 t185 t186 t191 t192 t193 t194 bt199.1 bt199.2.1 bt199.2.2.1 bt199.2.2.2.1))) else (none)) else (redactorlaw04_CodecAlike.j3 kj16 l0 x7_2 t167 t170 t174 x14_16 false t183 t184 t185 t186 t191 t192 t193 t194 bt199.1 bt199.2.1 bt199.2.2.1 bt199.2.2.2.1)))) = some r := H
                  have A27 := Aside0.mk A270
                  clear A270
                  replace H := Option.bind_eq_some_iff.mp H
                  obtain ⟨⟨t199, t200, t201, t202, t205⟩, A280, H⟩ := H
                  replace H : (if a2 = true then (redactorlaw04_CodecAlike.j3 kj16 l0 x7_2 t167 t170 t174 x14_16 false t183 t184 t185 t186 t191 t192 t193 t194 t199 t200 t201 t202) else (if (x13_16.length : Int) ≥ 2 then (if 0 < (x13_16.length : Int) then (if (rd x13_16 0) = 255 then (if 1 < (x13_16.length : Int) then (if (rd x13_16 1) = 254 then (redactorlaw04_CodecAlike.j3 kj16 l0 x7_2 t167 t170 t174 x14_16 true t183 t184 t185 t186 t191 t192 t193 t194 t199 t200 t201 t202) else (if (rd x13_16 0) = 254 then (redactorlaw04_CodecAlike.j3 kj16 l0 x7_2 t167 t170 t174 x14_16 ((rd x13_16 1) == 255) t183 t184 t185 t186 t191 t192 t193 t194 t199 t200 t201 t202) else (redactorlaw04_CodecAlike.j3 kj16 l0 x7_2 t167 t170 t174 x14_16 false t183 t184 t185 t186 t191 t192 t193 t194 t199 t200 t201 t202))) else (none)) else (if (rd x13_16 0) = 254 then (if 1 < (x13_16.length : Int) then (redactorlaw04_CodecAlike.j3 kj16 l0 x7_2 t167 t170 t174 x14_16 ((rd x13_16 1) == 255) t183 t184 t185 t186 t191 t192 t193 t194 t199 t200 t201 t202) else (none)) else (redactorlaw04_CodecAlike.j3 kj16 l0 x7_2 t167 t170 t174 x14_16 false t183 t184 t185 t186 t191 t192 t193 t194 t199 t200 t201 t202))) else (none)) else (redactorlaw04_CodecAlike.j3 kj16 l0 x7_2 t167 t170 t174 x14_16 false t183 t184 t185 t186 t191 t192 t193 t194 t199 t200 t201 t202))) = some r := H
                  have A28 := Aside0.mk A280
                  clear A280
                  have HC29 := Aside0.mk H
                  clear H
                  obtain ⟨Ao30, co30, eo30⟩ := Kd.R_slice HO_9.out
                  subst eo30
                  go_upto_region 14 with (first | ((with_reducible refine gate_callee (f := 12) rfl ?_); refine goesL_ (some 69) rfl rfl Tryd.func12 (by kernel_rfl) rfl #[.int .u8 3, .slice Ao30 t167.length co30] rfl (by (try simp only [List.map_toArray, List.map_cons, List.map_nil]); first | done | rfl | (simp only [List.length_drop, List.length_take]; rfl)) ?_; (with_reducible refine (codec_Decode.calls kj16 3 _ _ t167 t183 t184 t185 t186 t189 _ ?side1 ?side2 ?side3 A26.out).mono ?_); (case side1 => repeat (first | exact (Kd.R_reads' HO_9.out).2.2 | (with_reducible refine Kd.C_alloc ?_ _) | (with_reducible refine Kd.C_drewN ?_ _) | (with_reducible refine Kd.C_drew ?_))); (case side2 => exact (Kd.R_reads' HO_9.out).2.1); (case side3 => refine gl_below HGL.out ?_; repeat (first | (with_reducible first | exact HB.out | apply below_alloc | apply pw_below_drewN | apply below_drew1) | exact HB.out)); rintro e w31 ⟨v187, rfl, ho0, hb⟩; refine ⟨_, rfl, ?_⟩; have n0_ := Aside0.mk (Kd.R_elder' (by (with_reducible repeat (first | apply Kd.R_alloc | apply Kd.R_drewN | apply Kd.R_drew)); exact HO_7.out) (Kd.R_base ho0) hb); have n1_ := Aside0.mk (Kd.R_below (by (with_reducible repeat (first | apply Kd.R_alloc | apply Kd.R_drewN | apply Kd.R_drew)); exact HO_9.out) hb); have n2_ := Aside0.mk (Kd.R_below (by (with_reducible repeat (first | apply Kd.R_alloc | apply Kd.R_drewN | apply Kd.R_drew)); exact HO_11.out) hb); have n3_ := Aside0.mk (Kd.R_below (by (with_reducible repeat (first | apply Kd.R_alloc | apply Kd.R_drewN | apply Kd.R_drew)); exact HO_13.out) hb); have n4_ := Aside0.mk (Kd.R_lower (Kd.R_new' ho0 (Kd.R_lt (by (with_reducible repeat (first | apply Kd.R_alloc | apply Kd.R_drewN | apply Kd.R_drew)); exact HO_7.out))) (below_size (by repeat (first | (with_reducible first | exact HB.out | apply below_alloc | apply pw_below_drewN | apply below_drew1) | exact HB.out)))); have n5_ := Aside0.mk (below_step (by repeat (first | (with_reducible first | exact HB.out | apply below_alloc | apply pw_below_drewN | apply below_drew1) | exact HB.out)) hb); clear HO_7; clear HO_9; clear HO_11; clear HO_13; clear HB; have HO_7 := n0_; have HO_9 := n1_; have HO_11 := n2_; have HO_13 := n3_; have HO188 := n4_; have HB := n5_; clear n0_ n1_ n2_ n3_ n4_ n5_; (try clear hb); (try clear hb2); (try clear hk); (try clear hi); (try clear ho0)) | ((with_reducible refine gate_dst (N := 15) rfl ?_); (try (refine gate_guard (by rfl) ?_; dsimp only)); refine box_event ?hg (N := 15) ?hd (cs := #[.int .u8 0, .bool false, .bool false, .slice none 0 0]) (t := 29) ?hr ?_; (case hd => rfl); (case hg => rfl); (case hr => first | (go_simp; done) | (go_simp; rfl)); intro gb190 hg w32 hbox hb; have n0_ := Aside0.mk (Kd.R_below (by (with_reducible repeat (first | apply Kd.R_alloc | apply Kd.R_drewN | apply Kd.R_drew)); exact HO_7.out) hb); have n1_ := Aside0.mk (Kd.R_below (by (with_reducible repeat (first | apply Kd.R_alloc | apply Kd.R_drewN | apply Kd.R_drew)); exact HO_9.out) hb); have n2_ := Aside0.mk (Kd.R_below (by (with_reducible repeat (first | apply Kd.R_alloc | apply Kd.R_drewN | apply Kd.R_drew)); exact HO_11.out) hb); have n3_ := Aside0.mk (Kd.R_below (by (with_reducible repeat (first | apply Kd.R_alloc | apply Kd.R_drewN | apply Kd.R_drew)); exact HO_13.out) hb); have n4_ := Aside0.mk (Kd.R_below (by (with_reducible repeat (first | apply Kd.R_alloc | apply Kd.R_drewN | apply Kd.R_drew)); exact HO188.out) hb); have n5_ := Aside0.mk (below_step (by repeat (first | (with_reducible first | exact HB.out | apply below_alloc | apply pw_below_drewN | apply below_drew1) | exact HB.out)) hb); have n6_ := Aside0.mk (hbox); have n7_ := Aside0.mk ((by rw [hg]; exact (below_size (by repeat (first | (with_reducible first | exact HB.out | apply below_alloc | apply pw_below_drewN | apply below_drew1) | exact HB.out))) : w.heap.size ≤ gb190)); have n8_ := Aside0.mk ((by rw [hg]; exact (below_size (by repeat (first | (with_reducible first | exact HB.out | apply below_alloc | apply pw_below_drewN | apply below_drew1) | exact HB.out))) : w.heap.size ≤ gb190)); clear HO_7; clear HO_9; clear HO_11; clear HO_13; clear HO188; clear HB; have HO_7 := n0_; have HO_9 := n1_; have HO_11 := n2_; have HO_13 := n3_; have HO188 := n4_; have HB := n5_; have BK190 := n6_; have GW190 := n7_; have GE190 := n8_; clear n0_ n1_ n2_ n3_ n4_ n5_ n6_ n7_ n8_; clear hb hbox hg; have hcz33_0 : w32.cell? ⟨gb190, 0, none⟩ = some (.int .u8 0) := (blk_cell BK190.out 0).trans rfl; have hcz33_1 : w32.cell? ⟨gb190, 1, none⟩ = some (.bool false) := (blk_cell BK190.out 1).trans rfl; have hcz33_2 : w32.cell? ⟨gb190, 2, none⟩ = some (.bool false) := (blk_cell BK190.out 2).trans rfl; have hcz33_3 : w32.cell? ⟨gb190, 3, none⟩ = some (.slice none 0 0) := (blk_cell BK190.out 3).trans rfl; have hfz33_0 := blk_frozen BK190.out 0; have hfz33_1 := blk_frozen BK190.out 1; have hfz33_2 := blk_frozen BK190.out 2; have hfz33_3 := blk_frozen BK190.out 3; obtain ⟨Ao34, co34, eo34⟩ := Kd.R_slice HO188.out; subst eo34; obtain ⟨Ao35, co35, eo35⟩ := Kd.R_slice HO_11.out; subst eo35) | ((with_reducible refine gate_callee (f := 12) rfl ?_); refine goesL_ (some 74) rfl rfl Tryd.func12 (by kernel_rfl) rfl #[.int .u8 1, .slice Ao35 t171.length co35] rfl (by (try simp only [List.map_toArray, List.map_cons, List.map_nil]); first | done | rfl | (simp only [List.length_drop, List.length_take]; rfl)) ?_; (with_reducible refine (codec_Decode.calls kj16 1 _ _ t171 t191 t192 t193 t194 t197 _ ?side1 ?side2 ?side3 A27.out).mono ?_); (case side1 => refine (Kd.R_reads' (e := 5) (base := w.heap.size) (ok := fun k_ => some k_ ≠ (.slice Ao30 t167.length co30 : Value).ownBlock) (n := t171.length) (c := co35) ?_).2.2; exact (by (with_reducible repeat (first | apply Kd.R_alloc | apply Kd.R_drewN | apply Kd.R_drew)); exact (Kd.R_mono (Kd.R_far (p := ⟨gb190, 3, none⟩) (Kd.R_far (p := ⟨gb190, 2, none⟩) (Kd.R_far (p := ⟨gb190, 1, none⟩) (Kd.R_far (p := ⟨gb190, 0, none⟩) (Kd.R_types HO_11.out BK190.out (by decide)) (fun _ hk => hk.2) (.int .u8 t183)) (fun _ hk => hk.2) (.bool t184)) (fun _ hk => hk.2) (.bool t185)) (fun _ hk => hk.2) (.slice Ao34 t186.length co34)) (fun _ h_ => h_.1)))); (case side2 => exact (Kd.R_reads' HO_11.out).2.1); (case side3 => refine gl_below HGL.out ?_; repeat (first | (with_reducible first | exact HB.out | apply below_alloc | apply pw_below_drewN | apply below_drew1 | refine below_set ?_ GE190.out) | exact HB.out)); rintro e w36 ⟨v195, rfl, ho0, hb⟩; refine ⟨_, rfl, ?_⟩; have n0_ := Aside0.mk (Kd.R_elder' (by (with_reducible repeat (first | apply Kd.R_alloc | apply Kd.R_drewN | apply Kd.R_drew)); exact (Kd.R_mono (Kd.R_far (p := ⟨gb190, 3, none⟩) (Kd.R_far (p := ⟨gb190, 2, none⟩) (Kd.R_far (p := ⟨gb190, 1, none⟩) (Kd.R_far (p := ⟨gb190, 0, none⟩) (Kd.R_types HO_7.out BK190.out (by decide)) (fun _ hk => hk.2) (.int .u8 t183)) (fun _ hk => hk.2) (.bool t184)) (fun _ hk => hk.2) (.bool t185)) (fun _ hk => hk.2) (.slice Ao34 t186.length co34)) (fun _ h_ => h_.1))) (Kd.R_base ho0) hb); have n1_ := Aside0.mk (Kd.R_below (by (with_reducible repeat (first | apply Kd.R_alloc | apply Kd.R_drewN | apply Kd.R_drew)); exact (Kd.R_mono (Kd.R_far (p := ⟨gb190, 3, none⟩) (Kd.R_far (p := ⟨gb190, 2, none⟩) (Kd.R_far (p := ⟨gb190, 1, none⟩) (Kd.R_far (p := ⟨gb190, 0, none⟩) (Kd.R_types HO_9.out BK190.out (by decide)) (fun _ hk => hk.2) (.int .u8 t183)) (fun _ hk => hk.2) (.bool t184)) (fun _ hk => hk.2) (.bool t185)) (fun _ hk => hk.2) (.slice Ao34 t186.length co34)) (fun _ h_ => h_.1))) hb); have n2_ := Aside0.mk (Kd.R_below (by (with_reducible repeat (first | apply Kd.R_alloc | apply Kd.R_drewN | apply Kd.R_drew)); exact (Kd.R_mono (Kd.R_far (p := ⟨gb190, 3, none⟩) (Kd.R_far (p := ⟨gb190, 2, none⟩) (Kd.R_far (p := ⟨gb190, 1, none⟩) (Kd.R_far (p := ⟨gb190, 0, none⟩) (Kd.R_types HO_11.out BK190.out (by decide)) (fun _ hk => hk.2) (.int .u8 t183)) (fun _ hk => hk.2) (.bool t184)) (fun _ hk => hk.2) (.bool t185)) (fun _ hk => hk.2) (.slice Ao34 t186.length co34)) (fun _ h_ => h_.1))) hb); have n3_ := Aside0.mk (Kd.R_below (by (with_reducible repeat (first | apply Kd.R_alloc | apply Kd.R_drewN | apply Kd.R_drew)); exact (Kd.R_mono (Kd.R_far (p := ⟨gb190, 3, none⟩) (Kd.R_far (p := ⟨gb190, 2, none⟩) (Kd.R_far (p := ⟨gb190, 1, none⟩) (Kd.R_far (p := ⟨gb190, 0, none⟩) (Kd.R_types HO_13.out BK190.out (by decide)) (fun _ hk => hk.2) (.int .u8 t183)) (fun _ hk => hk.2) (.bool t184)) (fun _ hk => hk.2) (.bool t185)) (fun _ hk => hk.2) (.slice Ao34 t186.length co34)) (fun _ h_ => h_.1))) hb); have n4_ := Aside0.mk (Kd.R_elder' (by (with_reducible repeat (first | apply Kd.R_alloc | apply Kd.R_drewN | apply Kd.R_drew)); exact (Kd.R_mono (Kd.R_far (p := ⟨gb190, 3, none⟩) (Kd.R_far (p := ⟨gb190, 2, none⟩) (Kd.R_far (p := ⟨gb190, 1, none⟩) (Kd.R_far (p := ⟨gb190, 0, none⟩) (Kd.R_types HO188.out BK190.out (by decide)) (fun _ hk => hk.2) (.int .u8 t183)) (fun _ hk => hk.2) (.bool t184)) (fun _ hk => hk.2) (.bool t185)) (fun _ hk => hk.2) (.slice Ao34 t186.length co34)) (fun _ h_ => h_.1))) (Kd.R_base ho0) hb); have n5_ := Aside0.mk (Kd.R_lower (Kd.R_new' (Kd.R_new' ho0 (Kd.R_lt (by (with_reducible repeat (first | apply Kd.R_alloc | apply Kd.R_drewN | apply Kd.R_drew)); exact (Kd.R_mono (Kd.R_far (p := ⟨gb190, 3, none⟩) (Kd.R_far (p := ⟨gb190, 2, none⟩) (Kd.R_far (p := ⟨gb190, 1, none⟩) (Kd.R_far (p := ⟨gb190, 0, none⟩) (Kd.R_types HO_7.out BK190.out (by decide)) (fun _ hk => hk.2) (.int .u8 t183)) (fun _ hk => hk.2) (.bool t184)) (fun _ hk => hk.2) (.bool t185)) (fun _ hk => hk.2) (.slice Ao34 t186.length co34)) (fun _ h_ => h_.1))))) (Kd.R_lt (by (with_reducible repeat (first | apply Kd.R_alloc | apply Kd.R_drewN | apply Kd.R_drew)); exact (Kd.R_mono (Kd.R_far (p := ⟨gb190, 3, none⟩) (Kd.R_far (p := ⟨gb190, 2, none⟩) (Kd.R_far (p := ⟨gb190, 1, none⟩) (Kd.R_far (p := ⟨gb190, 0, none⟩) (Kd.R_types HO188.out BK190.out (by decide)) (fun _ hk => hk.2) (.int .u8 t183)) (fun _ hk => hk.2) (.bool t184)) (fun _ hk => hk.2) (.bool t185)) (fun _ hk => hk.2) (.slice Ao34 t186.length co34)) (fun _ h_ => h_.1))))) (below_size (by repeat (first | (with_reducible first | exact HB.out | apply below_alloc | apply pw_below_drewN | apply below_drew1 | refine below_set ?_ GE190.out) | exact HB.out)))); have n6_ := Aside0.mk (blk_below (g := gb190) (o := .cells #[.int .u8 t183, .bool t184, .bool t185, .slice Ao34 t186.length co34] 29 (0, 0)) (by (with_reducible repeat (first | refine blk_drewN ?_ _ | refine blk_drew ?_ | refine blk_alloc ?_ _)); refine blk_put (cs := #[.int .u8 t183, .bool t184, .bool t185, .slice none 0 0]) ?_ 3 _ rfl; (with_reducible repeat (first | refine blk_drewN ?_ _ | refine blk_drew ?_ | refine blk_alloc ?_ _)); refine blk_put (cs := #[.int .u8 t183, .bool t184, .bool false, .slice none 0 0]) ?_ 2 _ rfl; (with_reducible repeat (first | refine blk_drewN ?_ _ | refine blk_drew ?_ | refine blk_alloc ?_ _)); refine blk_put (cs := #[.int .u8 t183, .bool false, .bool false, .slice none 0 0]) ?_ 1 _ rfl; (with_reducible repeat (first | refine blk_drewN ?_ _ | refine blk_drew ?_ | refine blk_alloc ?_ _)); refine blk_put (cs := #[.int .u8 0, .bool false, .bool false, .slice none 0 0]) ?_ 0 _ rfl; (with_reducible repeat (first | refine blk_drewN ?_ _ | refine blk_drew ?_ | refine blk_alloc ?_ _)); exact BK190.out) hb); have n7_ := Aside0.mk (below_step (by repeat (first | (with_reducible first | exact HB.out | apply below_alloc | apply pw_below_drewN | apply below_drew1 | refine below_set ?_ GE190.out) | exact HB.out)) hb); clear HO_7; clear HO_9; clear HO_11; clear HO_13; clear HO188; clear BK190; clear HB; have HO_7 := n0_; have HO_9 := n1_; have HO_11 := n2_; have HO_13 := n3_; have HO188 := n4_; have HO196 := n5_; have BK190 := n6_; have HB := n7_; clear n0_ n1_ n2_ n3_ n4_ n5_ n6_ n7_; (try clear hb); (try clear hb2); (try clear hk); (try clear hi); (try clear ho0)) | ((with_reducible refine gate_dst (N := 17) rfl ?_); (try (refine gate_guard (by rfl) ?_; dsimp only)); refine box_event ?hg (N := 17) ?hd (cs := #[.int .u8 0, .bool false, .bool false, .slice none 0 0]) (t := 29) ?hr ?_; (case hd => rfl); (case hg => rfl); (case hr => first | (go_simp; done) | (go_simp; rfl)); intro gb198 hg w37 hbox hb; have n0_ := Aside0.mk (Kd.R_below (by (with_reducible repeat (first | apply Kd.R_alloc | apply Kd.R_drewN | apply Kd.R_drew)); exact HO_7.out) hb); have n1_ := Aside0.mk (Kd.R_below (by (with_reducible repeat (first | apply Kd.R_alloc | apply Kd.R_drewN | apply Kd.R_drew)); exact HO_9.out) hb); have n2_ := Aside0.mk (Kd.R_below (by (with_reducible repeat (first | apply Kd.R_alloc | apply Kd.R_drewN | apply Kd.R_drew)); exact HO_11.out) hb); have n3_ := Aside0.mk (Kd.R_below (by (with_reducible repeat (first | apply Kd.R_alloc | apply Kd.R_drewN | apply Kd.R_drew)); exact HO_13.out) hb); have n4_ := Aside0.mk (Kd.R_below (by (with_reducible repeat (first | apply Kd.R_alloc | apply Kd.R_drewN | apply Kd.R_drew)); exact HO188.out) hb); have n5_ := Aside0.mk (Kd.R_below (by (with_reducible repeat (first | apply Kd.R_alloc | apply Kd.R_drewN | apply Kd.R_drew)); exact HO196.out) hb); have n6_ := Aside0.mk (blk_below (g := gb190) (o := .cells #[.int .u8 t183, .bool t184, .bool t185, .slice Ao34 t186.length co34] 29 (0, 0)) (by (with_reducible repeat (first | refine blk_drewN ?_ _ | refine blk_drew ?_ | refine blk_alloc ?_ _)); exact BK190.out) hb); have n7_ := Aside0.mk (below_step (by repeat (first | (with_reducible first | exact HB.out | apply below_alloc | apply pw_below_drewN | apply below_drew1 | refine below_set ?_ GE190.out) | exact HB.out)) hb); have n8_ := Aside0.mk (hbox); have n9_ := Aside0.mk ((by rw [hg]; exact (below_size (by repeat (first | (with_reducible first | exact HB.out | apply below_alloc | apply pw_below_drewN | apply below_drew1 | refine below_set ?_ GE190.out) | exact HB.out))) : w.heap.size ≤ gb198)); have n10_ := Aside0.mk ((by rw [hg]; exact (below_size (by repeat (first | (with_reducible first | exact HB.out | apply below_alloc | apply pw_below_drewN | apply below_drew1 | refine below_set ?_ GE190.out) | exact HB.out))) : w.heap.size ≤ gb198)); have n11_ := Aside0.mk ((by rw [hg]; exact Nat.ne_of_lt (blk_lt (g := gb190) (o := .cells #[.int .u8 t183, .bool t184, .bool t185, .slice Ao34 t186.length co34] 29 (0, 0)) (by (with_reducible repeat (first | refine blk_drewN ?_ _ | refine blk_drew ?_ | refine blk_alloc ?_ _)); exact BK190.out)) : gb190 ≠ gb198)); have n12_ := Aside0.mk ((by rw [hg]; exact Nat.ne_of_gt (blk_lt (g := gb190) (o := .cells #[.int .u8 t183, .bool t184, .bool t185, .slice Ao34 t186.length co34] 29 (0, 0)) (by (with_reducible repeat (first | refine blk_drewN ?_ _ | refine blk_drew ?_ | refine blk_alloc ?_ _)); exact BK190.out)) : gb198 ≠ gb190)); clear HO_7; clear HO_9; clear HO_11; clear HO_13; clear HO188; clear HO196; clear BK190; clear HB; have HO_7 := n0_; have HO_9 := n1_; have HO_11 := n2_; have HO_13 := n3_; have HO188 := n4_; have HO196 := n5_; have BK190 := n6_; have HB := n7_; have BK198 := n8_; have GW198 := n9_; have GE198 := n10_; have NB190_198 := n11_; have NB198_190 := n12_; clear n0_ n1_ n2_ n3_ n4_ n5_ n6_ n7_ n8_ n9_ n10_ n11_ n12_; clear hb hbox hg; have hnb38 := NB198_190.out; have hnc38 := NB190_198.out; have hcz39_0 : w37.cell? ⟨gb198, 0, none⟩ = some (.int .u8 0) := (blk_cell BK198.out 0).trans rfl; have hcz39_1 : w37.cell? ⟨gb198, 1, none⟩ = some (.bool false) := (blk_cell BK198.out 1).trans rfl; have hcz39_2 : w37.cell? ⟨gb198, 2, none⟩ = some (.bool false) := (blk_cell BK198.out 2).trans rfl; have hcz39_3 : w37.cell? ⟨gb198, 3, none⟩ = some (.slice none 0 0) := (blk_cell BK198.out 3).trans rfl; have hfz39_0 := blk_frozen BK198.out 0; have hfz39_1 := blk_frozen BK198.out 1; have hfz39_2 := blk_frozen BK198.out 2; have hfz39_3 := blk_frozen BK198.out 3; obtain ⟨Ao40, co40, eo40⟩ := Kd.R_slice HO196.out; subst eo40; obtain ⟨Ao41, co41, eo41⟩ := Kd.R_slice HO_13.out; subst eo41) | ((with_reducible refine gate_callee (f := 12) rfl ?_); refine goesL_ (some 79) rfl rfl Tryd.func12 (by kernel_rfl) rfl #[.int .u8 2, .slice Ao41 x13_16.length co41] rfl (by (try simp only [List.map_toArray, List.map_cons, List.map_nil]); first | done | rfl | (simp only [List.length_drop, List.length_take]; rfl)) ?_; (with_reducible refine (codec_Decode.calls kj16 2 _ _ x13_16 t199 t200 t201 t202 t205 _ ?side1 ?side2 ?side3 A28.out).mono ?_); (case side1 => refine (Kd.R_reads' (e := 5) (base := w.heap.size) (ok := fun k_ => True) (n := x13_16.length) (c := co41) ?_).2.2; exact (by (with_reducible repeat (first | apply Kd.R_alloc | apply Kd.R_drewN | apply Kd.R_drew)); exact (Kd.R_mono (Kd.R_far (p := ⟨gb198, 3, none⟩) (Kd.R_far (p := ⟨gb198, 2, none⟩) (Kd.R_far (p := ⟨gb198, 1, none⟩) (Kd.R_far (p := ⟨gb198, 0, none⟩) (Kd.R_types HO_13.out BK198.out (by decide)) (fun _ hk => hk.2) (.int .u8 t191)) (fun _ hk => hk.2) (.bool t192)) (fun _ hk => hk.2) (.bool t193)) (fun _ hk => hk.2) (.slice Ao40 t194.length co40)) (fun _ h_ => h_.1)))); (case side2 => exact (Kd.R_reads' HO_13.out).2.1); (case side3 => refine gl_below HGL.out ?_; repeat (first | (with_reducible first | exact HB.out | apply below_alloc | apply pw_below_drewN | apply below_drew1 | refine below_set ?_ GE190.out | refine below_set ?_ GE198.out) | exact HB.out)); rintro e w42 ⟨v203, rfl, ho0, hb⟩; refine ⟨_, rfl, ?_⟩; have n0_ := Aside0.mk (Kd.R_elder' (by (with_reducible repeat (first | apply Kd.R_alloc | apply Kd.R_drewN | apply Kd.R_drew)); exact (Kd.R_mono (Kd.R_far (p := ⟨gb198, 3, none⟩) (Kd.R_far (p := ⟨gb198, 2, none⟩) (Kd.R_far (p := ⟨gb198, 1, none⟩) (Kd.R_far (p := ⟨gb198, 0, none⟩) (Kd.R_types HO_7.out BK198.out (by decide)) (fun _ hk => hk.2) (.int .u8 t191)) (fun _ hk => hk.2) (.bool t192)) (fun _ hk => hk.2) (.bool t193)) (fun _ hk => hk.2) (.slice Ao40 t194.length co40)) (fun _ h_ => h_.1))) (Kd.R_base ho0) hb); have n1_ := Aside0.mk (Kd.R_below (by (with_reducible repeat (first | apply Kd.R_alloc | apply Kd.R_drewN | apply Kd.R_drew)); exact (Kd.R_mono (Kd.R_far (p := ⟨gb198, 3, none⟩) (Kd.R_far (p := ⟨gb198, 2, none⟩) (Kd.R_far (p := ⟨gb198, 1, none⟩) (Kd.R_far (p := ⟨gb198, 0, none⟩) (Kd.R_types HO_9.out BK198.out (by decide)) (fun _ hk => hk.2) (.int .u8 t191)) (fun _ hk => hk.2) (.bool t192)) (fun _ hk => hk.2) (.bool t193)) (fun _ hk => hk.2) (.slice Ao40 t194.length co40)) (fun _ h_ => h_.1))) hb); have n2_ := Aside0.mk (Kd.R_below (by (with_reducible repeat (first | apply Kd.R_alloc | apply Kd.R_drewN | apply Kd.R_drew)); exact (Kd.R_mono (Kd.R_far (p := ⟨gb198, 3, none⟩) (Kd.R_far (p := ⟨gb198, 2, none⟩) (Kd.R_far (p := ⟨gb198, 1, none⟩) (Kd.R_far (p := ⟨gb198, 0, none⟩) (Kd.R_types HO_11.out BK198.out (by decide)) (fun _ hk => hk.2) (.int .u8 t191)) (fun _ hk => hk.2) (.bool t192)) (fun _ hk => hk.2) (.bool t193)) (fun _ hk => hk.2) (.slice Ao40 t194.length co40)) (fun _ h_ => h_.1))) hb); have n3_ := Aside0.mk (Kd.R_below (by (with_reducible repeat (first | apply Kd.R_alloc | apply Kd.R_drewN | apply Kd.R_drew)); exact (Kd.R_mono (Kd.R_far (p := ⟨gb198, 3, none⟩) (Kd.R_far (p := ⟨gb198, 2, none⟩) (Kd.R_far (p := ⟨gb198, 1, none⟩) (Kd.R_far (p := ⟨gb198, 0, none⟩) (Kd.R_types HO_13.out BK198.out (by decide)) (fun _ hk => hk.2) (.int .u8 t191)) (fun _ hk => hk.2) (.bool t192)) (fun _ hk => hk.2) (.bool t193)) (fun _ hk => hk.2) (.slice Ao40 t194.length co40)) (fun _ h_ => h_.1))) hb); have n4_ := Aside0.mk (Kd.R_elder' (by (with_reducible repeat (first | apply Kd.R_alloc | apply Kd.R_drewN | apply Kd.R_drew)); exact (Kd.R_mono (Kd.R_far (p := ⟨gb198, 3, none⟩) (Kd.R_far (p := ⟨gb198, 2, none⟩) (Kd.R_far (p := ⟨gb198, 1, none⟩) (Kd.R_far (p := ⟨gb198, 0, none⟩) (Kd.R_types HO188.out BK198.out (by decide)) (fun _ hk => hk.2) (.int .u8 t191)) (fun _ hk => hk.2) (.bool t192)) (fun _ hk => hk.2) (.bool t193)) (fun _ hk => hk.2) (.slice Ao40 t194.length co40)) (fun _ h_ => h_.1))) (Kd.R_base ho0) hb); have n5_ := Aside0.mk (Kd.R_elder' (by (with_reducible repeat (first | apply Kd.R_alloc | apply Kd.R_drewN | apply Kd.R_drew)); exact (Kd.R_mono (Kd.R_far (p := ⟨gb198, 3, none⟩) (Kd.R_far (p := ⟨gb198, 2, none⟩) (Kd.R_far (p := ⟨gb198, 1, none⟩) (Kd.R_far (p := ⟨gb198, 0, none⟩) (Kd.R_types HO196.out BK198.out (by decide)) (fun _ hk => hk.2) (.int .u8 t191)) (fun _ hk => hk.2) (.bool t192)) (fun _ hk => hk.2) (.bool t193)) (fun _ hk => hk.2) (.slice Ao40 t194.length co40)) (fun _ h_ => h_.1))) (Kd.R_base ho0) hb); have n6_ := Aside0.mk (Kd.R_lower (Kd.R_new' (Kd.R_new' (Kd.R_new' ho0 (Kd.R_lt (by (with_reducible repeat (first | apply Kd.R_alloc | apply Kd.R_drewN | apply Kd.R_drew)); exact (Kd.R_mono (Kd.R_far (p := ⟨gb198, 3, none⟩) (Kd.R_far (p := ⟨gb198, 2, none⟩) (Kd.R_far (p := ⟨gb198, 1, none⟩) (Kd.R_far (p := ⟨gb198, 0, none⟩) (Kd.R_types HO_7.out BK198.out (by decide)) (fun _ hk => hk.2) (.int .u8 t191)) (fun _ hk => hk.2) (.bool t192)) (fun _ hk => hk.2) (.bool t193)) (fun _ hk => hk.2) (.slice Ao40 t194.length co40)) (fun _ h_ => h_.1))))) (Kd.R_lt (by (with_reducible repeat (first | apply Kd.R_alloc | apply Kd.R_drewN | apply Kd.R_drew)); exact (Kd.R_mono (Kd.R_far (p := ⟨gb198, 3, none⟩) (Kd.R_far (p := ⟨gb198, 2, none⟩) (Kd.R_far (p := ⟨gb198, 1, none⟩) (Kd.R_far (p := ⟨gb198, 0, none⟩) (Kd.R_types HO188.out BK198.out (by decide)) (fun _ hk => hk.2) (.int .u8 t191)) (fun _ hk => hk.2) (.bool t192)) (fun _ hk => hk.2) (.bool t193)) (fun _ hk => hk.2) (.slice Ao40 t194.length co40)) (fun _ h_ => h_.1))))) (Kd.R_lt (by (with_reducible repeat (first | apply Kd.R_alloc | apply Kd.R_drewN | apply Kd.R_drew)); exact (Kd.R_mono (Kd.R_far (p := ⟨gb198, 3, none⟩) (Kd.R_far (p := ⟨gb198, 2, none⟩) (Kd.R_far (p := ⟨gb198, 1, none⟩) (Kd.R_far (p := ⟨gb198, 0, none⟩) (Kd.R_types HO196.out BK198.out (by decide)) (fun _ hk => hk.2) (.int .u8 t191)) (fun _ hk => hk.2) (.bool t192)) (fun _ hk => hk.2) (.bool t193)) (fun _ hk => hk.2) (.slice Ao40 t194.length co40)) (fun _ h_ => h_.1))))) (below_size (by repeat (first | (with_reducible first | exact HB.out | apply below_alloc | apply pw_below_drewN | apply below_drew1 | refine below_set ?_ GE190.out | refine below_set ?_ GE198.out) | exact HB.out)))); have n7_ := Aside0.mk (blk_below (g := gb190) (o := .cells #[.int .u8 t183, .bool t184, .bool t185, .slice Ao34 t186.length co34] 29 (0, 0)) (by (with_reducible repeat (first | refine blk_drewN ?_ _ | refine blk_drew ?_ | refine blk_alloc ?_ _)); refine blk_far ?_ NB190_198.out _; (with_reducible repeat (first | refine blk_drewN ?_ _ | refine blk_drew ?_ | refine blk_alloc ?_ _)); refine blk_far ?_ NB190_198.out _; (with_reducible repeat (first | refine blk_drewN ?_ _ | refine blk_drew ?_ | refine blk_alloc ?_ _)); refine blk_far ?_ NB190_198.out _; (with_reducible repeat (first | refine blk_drewN ?_ _ | refine blk_drew ?_ | refine blk_alloc ?_ _)); refine blk_far ?_ NB190_198.out _; (with_reducible repeat (first | refine blk_drewN ?_ _ | refine blk_drew ?_ | refine blk_alloc ?_ _)); exact BK190.out) hb); have n8_ := Aside0.mk (blk_below (g := gb198) (o := .cells #[.int .u8 t191, .bool t192, .bool t193, .slice Ao40 t194.length co40] 29 (0, 0)) (by (with_reducible repeat (first | refine blk_drewN ?_ _ | refine blk_drew ?_ | refine blk_alloc ?_ _)); refine blk_put (cs := #[.int .u8 t191, .bool t192, .bool t193, .slice none 0 0]) ?_ 3 _ rfl; (with_reducible repeat (first | refine blk_drewN ?_ _ | refine blk_drew ?_ | refine blk_alloc ?_ _)); refine blk_put (cs := #[.int .u8 t191, .bool t192, .bool false, .slice none 0 0]) ?_ 2 _ rfl; (with_reducible repeat (first | refine blk_drewN ?_ _ | refine blk_drew ?_ | refine blk_alloc ?_ _)); refine blk_put (cs := #[.int .u8 t191, .bool false, .bool false, .slice none 0 0]) ?_ 1 _ rfl; (with_reducible repeat (first | refine blk_drewN ?_ _ | refine blk_drew ?_ | refine blk_alloc ?_ _)); refine blk_put (cs := #[.int .u8 0, .bool false, .bool false, .slice none 0 0]) ?_ 0 _ rfl; (with_reducible repeat (first | refine blk_drewN ?_ _ | refine blk_drew ?_ | refine blk_alloc ?_ _)); exact BK198.out) hb); have n9_ := Aside0.mk (below_step (by repeat (first | (with_reducible first | exact HB.out | apply below_alloc | apply pw_below_drewN | apply below_drew1 | refine below_set ?_ GE190.out | refine below_set ?_ GE198.out) | exact HB.out)) hb); clear HO_7; clear HO_9; clear HO_11; clear HO_13; clear HO188; clear HO196; clear BK190; clear BK198; clear HB; have HO_7 := n0_; have HO_9 := n1_; have HO_11 := n2_; have HO_13 := n3_; have HO188 := n4_; have HO196 := n5_; have HO204 := n6_; have BK190 := n7_; have BK198 := n8_; have HB := n9_; clear n0_ n1_ n2_ n3_ n4_ n5_ n6_ n7_ n8_ n9_; (try clear hb); (try clear hb2); (try clear hk); (try clear hi); (try clear ho0)) | ((with_reducible refine gate_dst (N := 19) rfl ?_); (try (refine gate_guard (by rfl) ?_; dsimp only)); refine box_event ?hg (N := 19) ?hd (cs := #[.int .u8 0, .bool false, .bool false, .slice none 0 0]) (t := 29) ?hr ?_; (case hd => rfl); (case hg => rfl); (case hr => first | (go_simp; done) | (go_simp; rfl)); intro gb206 hg w43 hbox hb; have n0_ := Aside0.mk (Kd.R_below (by (with_reducible repeat (first | apply Kd.R_alloc | apply Kd.R_drewN | apply Kd.R_drew)); exact HO_7.out) hb); have n1_ := Aside0.mk (Kd.R_below (by (with_reducible repeat (first | apply Kd.R_alloc | apply Kd.R_drewN | apply Kd.R_drew)); exact HO_9.out) hb); have n2_ := Aside0.mk (Kd.R_below (by (with_reducible repeat (first | apply Kd.R_alloc | apply Kd.R_drewN | apply Kd.R_drew)); exact HO_11.out) hb); have n3_ := Aside0.mk (Kd.R_below (by (with_reducible repeat (first | apply Kd.R_alloc | apply Kd.R_drewN | apply Kd.R_drew)); exact HO_13.out) hb); have n4_ := Aside0.mk (Kd.R_below (by (with_reducible repeat (first | apply Kd.R_alloc | apply Kd.R_drewN | apply Kd.R_drew)); exact HO188.out) hb); have n5_ := Aside0.mk (Kd.R_below (by (with_reducible repeat (first | apply Kd.R_alloc | apply Kd.R_drewN | apply Kd.R_drew)); exact HO196.out) hb); have n6_ := Aside0.mk (Kd.R_below (by (with_reducible repeat (first | apply Kd.R_alloc | apply Kd.R_drewN | apply Kd.R_drew)); exact HO204.out) hb); have n7_ := Aside0.mk (blk_below (g := gb190) (o := .cells #[.int .u8 t183, .bool t184, .bool t185, .slice Ao34 t186.length co34] 29 (0, 0)) (by (with_reducible repeat (first | refine blk_drewN ?_ _ | refine blk_drew ?_ | refine blk_alloc ?_ _)); exact BK190.out) hb); have n8_ := Aside0.mk (blk_below (g := gb198) (o := .cells #[.int .u8 t191, .bool t192, .bool t193, .slice Ao40 t194.length co40] 29 (0, 0)) (by (with_reducible repeat (first | refine blk_drewN ?_ _ | refine blk_drew ?_ | refine blk_alloc ?_ _)); exact BK198.out) hb); have n9_ := Aside0.mk (below_step (by repeat (first | (with_reducible first | exact HB.out | apply below_alloc | apply pw_below_drewN | apply below_drew1 | refine below_set ?_ GE190.out | refine below_set ?_ GE198.out) | exact HB.out)) hb); have n10_ := Aside0.mk (hbox); have n11_ := Aside0.mk ((by rw [hg]; exact (below_size (by repeat (first | (with_reducible first | exact HB.out | apply below_alloc | apply pw_below_drewN | apply below_drew1 | refine below_set ?_ GE190.out | refine below_set ?_ GE198.out) | exact HB.out))) : w.heap.size ≤ gb206)); have n12_ := Aside0.mk ((by rw [hg]; exact (below_size (by repeat (first | (with_reducible first | exact HB.out | apply below_alloc | apply pw_below_drewN | apply below_drew1 | refine below_set ?_ GE190.out | refine below_set ?_ GE198.out) | exact HB.out))) : w.heap.size ≤ gb206)); have n13_ := Aside0.mk ((by rw [hg]; exact Nat.ne_of_lt (blk_lt (g := gb190) (o := .cells #[.int .u8 t183, .bool t184, .bool t185, .slice Ao34 t186.length co34] 29 (0, 0)) (by (with_reducible repeat (first | refine blk_drewN ?_ _ | refine blk_drew ?_ | refine blk_alloc ?_ _)); exact BK190.out)) : gb190 ≠ gb206)); have n14_ := Aside0.mk ((by rw [hg]; exact Nat.ne_of_gt (blk_lt (g := gb190) (o := .cells #[.int .u8 t183, .bool t184, .bool t185, .slice Ao34 t186.length co34] 29 (0, 0)) (by (with_reducible repeat (first | refine blk_drewN ?_ _ | refine blk_drew ?_ | refine blk_alloc ?_ _)); exact BK190.out)) : gb206 ≠ gb190)); have n15_ := Aside0.mk ((by rw [hg]; exact Nat.ne_of_lt (blk_lt (g := gb198) (o := .cells #[.int .u8 t191, .bool t192, .bool t193, .slice Ao40 t194.length co40] 29 (0, 0)) (by (with_reducible repeat (first | refine blk_drewN ?_ _ | refine blk_drew ?_ | refine blk_alloc ?_ _)); exact BK198.out)) : gb198 ≠ gb206)); have n16_ := Aside0.mk ((by rw [hg]; exact Nat.ne_of_gt (blk_lt (g := gb198) (o := .cells #[.int .u8 t191, .bool t192, .bool t193, .slice Ao40 t194.length co40] 29 (0, 0)) (by (with_reducible repeat (first | refine blk_drewN ?_ _ | refine blk_drew ?_ | refine blk_alloc ?_ _)); exact BK198.out)) : gb206 ≠ gb198)); clear HO_7; clear HO_9; clear HO_11; clear HO_13; clear HO188; clear HO196; clear HO204; clear BK190; clear BK198; clear HB; have HO_7 := n0_; have HO_9 := n1_; have HO_11 := n2_; have HO_13 := n3_; have HO188 := n4_; have HO196 := n5_; have HO204 := n6_; have BK190 := n7_; have BK198 := n8_; have HB := n9_; have BK206 := n10_; have GW206 := n11_; have GE206 := n12_; have NB190_206 := n13_; have NB206_190 := n14_; have NB198_206 := n15_; have NB206_198 := n16_; clear n0_ n1_ n2_ n3_ n4_ n5_ n6_ n7_ n8_ n9_ n10_ n11_ n12_ n13_ n14_ n15_ n16_; clear hb hbox hg; have hnb44 := NB206_190.out; have hnc44 := NB190_206.out; have hnb45 := NB206_198.out; have hnc45 := NB198_206.out; have hcz46_0 : w43.cell? ⟨gb206, 0, none⟩ = some (.int .u8 0) := (blk_cell BK206.out 0).trans rfl; have hcz46_1 : w43.cell? ⟨gb206, 1, none⟩ = some (.bool false) := (blk_cell BK206.out 1).trans rfl; have hcz46_2 : w43.cell? ⟨gb206, 2, none⟩ = some (.bool false) := (blk_cell BK206.out 2).trans rfl; have hcz46_3 : w43.cell? ⟨gb206, 3, none⟩ = some (.slice none 0 0) := (blk_cell BK206.out 3).trans rfl; have hfz46_0 := blk_frozen BK206.out 0; have hfz46_1 := blk_frozen BK206.out 1; have hfz46_2 := blk_frozen BK206.out 2; have hfz46_3 := blk_frozen BK206.out 3; obtain ⟨Ao47, co47, eo47⟩ := Kd.R_slice HO204.out; subst eo47))
                  (try simp only [Act.put, List.setIfInBounds_toArray, List.set_cons_zero, List.set_cons_succ])
                  go_cut [112] (fun v112 wc => ∃ (kq : Nat) (x112_28 : Bool), v112 = .bool x112_28 ∧ Aside0 (redactorlaw04_CodecAlike.j3 kq l0 x7_2 t167 t170 t174 x14_16 x112_28 t183 t184 t185 t186 t191 t192 t193 t194 t199 t200 t201 t202 = some r) ∧ Aside0 (kq ≤ kj16) ∧ Aside0 (Kd.R (Kd.int .i32) 37 wc w.heap.size (fun k_ => some k_ ≠ ((.slice Ao34 t186.length co34) : Value).ownBlock ∧ some k_ ≠ ((.slice Ao40 t194.length co40) : Value).ownBlock ∧ some k_ ≠ ((.slice Ao47 t202.length co47) : Value).ownBlock) (.slice Ao18 x7_2.length co18) x7_2) ∧ Aside0 (Kd.R (Kd.int .u8) 5 wc w.heap.size (fun _ => True) (.slice Ao30 t167.length co30) t167) ∧ Aside0 (Kd.R (Kd.int .i32) 37 wc w.heap.size (fun k_ => some k_ ≠ ((.slice Ao18 x7_2.length co18) : Value).ownBlock ∧ some k_ ≠ ((.slice Ao40 t194.length co40) : Value).ownBlock ∧ some k_ ≠ ((.slice Ao47 t202.length co47) : Value).ownBlock) (.slice Ao34 t186.length co34) t186) ∧ Aside0 (Kd.R (Kd.int .i32) 37 wc w.heap.size (fun k_ => some k_ ≠ ((.slice Ao18 x7_2.length co18) : Value).ownBlock ∧ some k_ ≠ ((.slice Ao34 t186.length co34) : Value).ownBlock ∧ some k_ ≠ ((.slice Ao47 t202.length co47) : Value).ownBlock) (.slice Ao40 t194.length co40) t194) ∧ Aside0 (Kd.R (Kd.int .i32) 37 wc w.heap.size (fun k_ => some k_ ≠ ((.slice Ao18 x7_2.length co18) : Value).ownBlock ∧ some k_ ≠ ((.slice Ao34 t186.length co34) : Value).ownBlock ∧ some k_ ≠ ((.slice Ao40 t194.length co40) : Value).ownBlock) (.slice Ao47 t202.length co47) t202) ∧ Aside0 (wc.heap[gb190]? = some (.cells #[.int .u8 t183, .bool t184, .bool t185, (.slice Ao34 t186.length co34)] 29 (0, 0))) ∧ Aside0 (wc.heap[gb198]? = some (.cells #[.int .u8 t191, .bool t192, .bool t193, (.slice Ao40 t194.length co40)] 29 (0, 0))) ∧ Aside0 (wc.heap[gb206]? = some (.cells #[.int .u8 t199, .bool t200, .bool t201, (.slice Ao47 t202.length co47)] 29 (0, 0))) ∧ Aside0 (Below w.heap.size w wc))
                  case first =>
                    have H := HC29.out
                    clear HC29
                    by_cases c48 : a2 = true
                    · subst c48
                      have H1 : (redactorlaw04_CodecAlike.j3 kj16 l0 x7_2 t167 t170 t174 x14_16 false t183 t184 t185 t186 t191 t192 t193 t194 t199 t200 t201 t202) = some r := by rw [if_pos rfl] at H; exact H
                      clear H
                      have H := H1
                      clear H1
                      have H' := Aside0.mk H
                      clear H
                      go_wp2
                      go_meet
                      case rel => exact ⟨_, (false), (by first | rfl | (simp; done) | (simp [*]; done)), H', ⟨by have := HJ3.out; have := HK2.out; have := HJ16.out; first | omega | exact Nat.le_refl _⟩, ⟨by (with_reducible repeat (first | apply Kd.R_alloc | apply Kd.R_drewN | apply Kd.R_drew)); exact Kd.R_mono (Kd.R_far (p := ⟨gb206, 3, none⟩) (Kd.R_far (p := ⟨gb206, 2, none⟩) (Kd.R_far (p := ⟨gb206, 1, none⟩) (Kd.R_far (p := ⟨gb206, 0, none⟩) (Kd.R_types HO_7.out BK206.out (by decide)) (fun _ hk => hk.2) (.int .u8 t199)) (fun _ hk => hk.2) (.bool t200)) (fun _ hk => hk.2) (.bool t201)) (fun _ hk => hk.2) (.slice Ao47 t202.length co47)) (fun _ hk => ⟨hk.1.1.1.2, ⟨hk.1.1.2, hk.1.2⟩⟩)⟩, ⟨by (with_reducible repeat (first | apply Kd.R_alloc | apply Kd.R_drewN | apply Kd.R_drew)); exact Kd.R_mono (Kd.R_far (p := ⟨gb206, 3, none⟩) (Kd.R_far (p := ⟨gb206, 2, none⟩) (Kd.R_far (p := ⟨gb206, 1, none⟩) (Kd.R_far (p := ⟨gb206, 0, none⟩) (Kd.R_types HO_9.out BK206.out (by decide)) (fun _ hk => hk.2) (.int .u8 t199)) (fun _ hk => hk.2) (.bool t200)) (fun _ hk => hk.2) (.bool t201)) (fun _ hk => hk.2) (.slice Ao47 t202.length co47)) (fun _ hk => trivial)⟩, ⟨by (with_reducible repeat (first | apply Kd.R_alloc | apply Kd.R_drewN | apply Kd.R_drew)); exact Kd.R_mono (Kd.R_far (p := ⟨gb206, 3, none⟩) (Kd.R_far (p := ⟨gb206, 2, none⟩) (Kd.R_far (p := ⟨gb206, 1, none⟩) (Kd.R_far (p := ⟨gb206, 0, none⟩) (Kd.R_types HO188.out BK206.out (by decide)) (fun _ hk => hk.2) (.int .u8 t199)) (fun _ hk => hk.2) (.bool t200)) (fun _ hk => hk.2) (.bool t201)) (fun _ hk => hk.2) (.slice Ao47 t202.length co47)) (fun _ hk => ⟨hk.1.1.1.2, ⟨hk.1.1.2, hk.1.2⟩⟩)⟩, ⟨by (with_reducible repeat (first | apply Kd.R_alloc | apply Kd.R_drewN | apply Kd.R_drew)); exact Kd.R_mono (Kd.R_far (p := ⟨gb206, 3, none⟩) (Kd.R_far (p := ⟨gb206, 2, none⟩) (Kd.R_far (p := ⟨gb206, 1, none⟩) (Kd.R_far (p := ⟨gb206, 0, none⟩) (Kd.R_types HO196.out BK206.out (by decide)) (fun _ hk => hk.2) (.int .u8 t199)) (fun _ hk => hk.2) (.bool t200)) (fun _ hk => hk.2) (.bool t201)) (fun _ hk => hk.2) (.slice Ao47 t202.length co47)) (fun _ hk => ⟨hk.1.1.1.2, ⟨hk.1.1.2, hk.1.2⟩⟩)⟩, ⟨by (with_reducible repeat (first | apply Kd.R_alloc | apply Kd.R_drewN | apply Kd.R_drew)); exact Kd.R_mono (Kd.R_far (p := ⟨gb206, 3, none⟩) (Kd.R_far (p := ⟨gb206, 2, none⟩) (Kd.R_far (p := ⟨gb206, 1, none⟩) (Kd.R_far (p := ⟨gb206, 0, none⟩) (Kd.R_types HO204.out BK206.out (by decide)) (fun _ hk => hk.2) (.int .u8 t199)) (fun _ hk => hk.2) (.bool t200)) (fun _ hk => hk.2) (.bool t201)) (fun _ hk => hk.2) (.slice Ao47 t202.length co47)) (fun _ hk => ⟨hk.1.1.1.2, ⟨hk.1.1.2, hk.1.2⟩⟩)⟩, ⟨by (with_reducible repeat (first | refine blk_drewN ?_ _ | refine blk_drew ?_ | refine blk_alloc ?_ _)); refine blk_far ?_ NB190_206.out _; (with_reducible repeat (first | refine blk_drewN ?_ _ | refine blk_drew ?_ | refine blk_alloc ?_ _)); refine blk_far ?_ NB190_206.out _; (with_reducible repeat (first | refine blk_drewN ?_ _ | refine blk_drew ?_ | refine blk_alloc ?_ _)); refine blk_far ?_ NB190_206.out _; (with_reducible repeat (first | refine blk_drewN ?_ _ | refine blk_drew ?_ | refine blk_alloc ?_ _)); refine blk_far ?_ NB190_206.out _; (with_reducible repeat (first | refine blk_drewN ?_ _ | refine blk_drew ?_ | refine blk_alloc ?_ _)); exact BK190.out⟩, ⟨by (with_reducible repeat (first | refine blk_drewN ?_ _ | refine blk_drew ?_ | refine blk_alloc ?_ _)); refine blk_far ?_ NB198_206.out _; (with_reducible repeat (first | refine blk_drewN ?_ _ | refine blk_drew ?_ | refine blk_alloc ?_ _)); refine blk_far ?_ NB198_206.out _; (with_reducible repeat (first | refine blk_drewN ?_ _ | refine blk_drew ?_ | refine blk_alloc ?_ _)); refine blk_far ?_ NB198_206.out _; (with_reducible repeat (first | refine blk_drewN ?_ _ | refine blk_drew ?_ | refine blk_alloc ?_ _)); refine blk_far ?_ NB198_206.out _; (with_reducible repeat (first | refine blk_drewN ?_ _ | refine blk_drew ?_ | refine blk_alloc ?_ _)); exact BK198.out⟩, ⟨by (with_reducible repeat (first | refine blk_drewN ?_ _ | refine blk_drew ?_ | refine blk_alloc ?_ _)); refine blk_put (cs := #[.int .u8 t199, .bool t200, .bool t201, .slice none 0 0]) ?_ 3 _ rfl; (with_reducible repeat (first | refine blk_drewN ?_ _ | refine blk_drew ?_ | refine blk_alloc ?_ _)); refine blk_put (cs := #[.int .u8 t199, .bool t200, .bool false, .slice none 0 0]) ?_ 2 _ rfl; (with_reducible repeat (first | refine blk_drewN ?_ _ | refine blk_drew ?_ | refine blk_alloc ?_ _)); refine blk_put (cs := #[.int .u8 t199, .bool false, .bool false, .slice none 0 0]) ?_ 1 _ rfl; (with_reducible repeat (first | refine blk_drewN ?_ _ | refine blk_drew ?_ | refine blk_alloc ?_ _)); refine blk_put (cs := #[.int .u8 0, .bool false, .bool false, .slice none 0 0]) ?_ 0 _ rfl; (with_reducible repeat (first | refine blk_drewN ?_ _ | refine blk_drew ?_ | refine blk_alloc ?_ _)); exact BK206.out⟩, ⟨by repeat (first | (with_reducible first | exact HB.out | apply below_alloc | apply pw_below_drewN | apply below_drew1 | refine below_set ?_ GE190.out | refine below_set ?_ GE198.out | refine below_set ?_ GE206.out) | exact HB.out)⟩⟩
                    · replace c48 := Bool.eq_false_iff.mpr c48
                      subst c48
                      have H1 : (if (x13_16.length : Int) ≥ 2 then (if 0 < (x13_16.length : Int) then (if (rd x13_16 0) = 255 then (if 1 < (x13_16.length : Int) then (if (rd x13_16 1) = 254 then (redactorlaw04_CodecAlike.j3 kj16 l0 x7_2 t167 t170 t174 x14_16 true t183 t184 t185 t186 t191 t192 t193 t194 t199 t200 t201 t202) else (if (rd x13_16 0) = 254 then (redactorlaw04_CodecAlike.j3 kj16 l0 x7_2 t167 t170 t174 x14_16 ((rd x13_16 1) == 255) t183 t184 t185 t186 t191 t192 t193 t194 t199 t200 t201 t202) else (redactorlaw04_CodecAlike.j3 kj16 l0 x7_2 t167 t170 t174 x14_16 false t183 t184 t185 t186 t191 t192 t193 t194 t199 t200 t201 t202))) else (none)) else (if (rd x13_16 0) = 254 then (if 1 < (x13_16.length : Int) then (redactorlaw04_CodecAlike.j3 kj16 l0 x7_2 t167 t170 t174 x14_16 ((rd x13_16 1) == 255) t183 t184 t185 t186 t191 t192 t193 t194 t199 t200 t201 t202) else (none)) else (redactorlaw04_CodecAlike.j3 kj16 l0 x7_2 t167 t170 t174 x14_16 false t183 t184 t185 t186 t191 t192 t193 t194 t199 t200 t201 t202))) else (none)) else (redactorlaw04_CodecAlike.j3 kj16 l0 x7_2 t167 t170 t174 x14_16 false t183 t184 t185 t186 t191 t192 t193 t194 t199 t200 t201 t202)) = some r := by rw [if_neg (show ¬ (false = true) by decide)] at H; exact H
                      clear H
                      have H := H1
                      clear H1
                      by_cases c49 : (x13_16.length : Int) ≥ 2
                      · rw [if_pos c49] at H
                        have c49b0 : decide (2 ≤ (x13_16.length : Int)) = true := decide_eq_true c49
                        have c49b1 : decide (2 ≤ x13_16.length) = true := decide_eq_true (by omega)
                        clear c49
                        (first | rw [c49b0] | (simp only [i64_w, i32_w]; rw [c49b0]) | skip)
                        by_cases c50 : 0 < (x13_16.length : Int)
                        · rw [if_pos c50] at H
                          have c50b0 : decide (0 < (x13_16.length : Int)) = true := decide_eq_true c50
                          have c50b1 : decide (0 < x13_16.length) = true := decide_eq_true (by omega)
                          clear c50
                          by_cases c51 : (rd x13_16 0) = 255
                          · rw [if_pos c51] at H
                            have c51b0 : ((rd x13_16 0) == 255) = true := beq_iff_eq.mpr c51
                            have c51b1 : ((rd x13_16 0) != 255) = false := bne_eq_false_iff_eq.mpr c51
                            clear c51
                            by_cases c52 : 1 < (x13_16.length : Int)
                            · rw [if_pos c52] at H
                              have c52b0 : decide (1 < (x13_16.length : Int)) = true := decide_eq_true c52
                              have c52b1 : decide (1 < x13_16.length) = true := decide_eq_true (by omega)
                              clear c52
                              by_cases c53 : (rd x13_16 1) = 254
                              · rw [if_pos c53] at H
                                have c53b0 : ((rd x13_16 1) == 254) = true := beq_iff_eq.mpr c53
                                have c53b1 : ((rd x13_16 1) != 254) = false := bne_eq_false_iff_eq.mpr c53
                                clear c53
                                have H' := Aside0.mk H
                                clear H
                                have p207 : 0 ≤ (0 : Int) := (by omega)
                                have q207 : 0 < (x13_16.length : Int) := of_decide_eq_true (by first | (with_reducible assumption) | assumption)
                                obtain ⟨ad207, e207, hx207_0⟩ := Kd.at_int (Kd.R_reads' HO_13.out).2.2 0 p207 q207
                                cases e207
                                have qi207 : (0 < x13_16.length) = True := eq_true (by omega)
                                (try rw [show ((0 : Int)).toNat = 0 from rfl] at hx207_0)
                                (try rw [Addr.add_zero'] at hx207_0)
                                have hn207_0 : ad207.block ≠ gb206 := Kd.own_blk (Kd.R_ne HO_13.out BK206.out (by decide))
                                have hn207_1 : ad207.block ≠ gb206 := Kd.own_blk (Kd.R_ne HO_13.out BK206.out (by decide))
                                have hn207_2 : ad207.block ≠ gb206 := Kd.own_blk (Kd.R_ne HO_13.out BK206.out (by decide))
                                have hn207_3 : ad207.block ≠ gb206 := Kd.own_blk (Kd.R_ne HO_13.out BK206.out (by decide))
                                replace hx207_0 := (cell_far (p := ⟨gb206, 0, none⟩) (by first | (rw [add_block]; exact hn207_0) | (show (Addr.add _ _).block ≠ _; rw [add_block]; exact hn207_0) | exact hn207_0) (.int .u8 t199)).trans hx207_0
                                replace hx207_0 := (cell_far (p := ⟨gb206, 1, none⟩) (by first | (rw [add_block]; exact hn207_1) | (show (Addr.add _ _).block ≠ _; rw [add_block]; exact hn207_1) | exact hn207_1) (.bool t200)).trans hx207_0
                                replace hx207_0 := (cell_far (p := ⟨gb206, 2, none⟩) (by first | (rw [add_block]; exact hn207_2) | (show (Addr.add _ _).block ≠ _; rw [add_block]; exact hn207_2) | exact hn207_2) (.bool t201)).trans hx207_0
                                replace hx207_0 := (cell_far (p := ⟨gb206, 3, none⟩) (by first | (rw [add_block]; exact hn207_3) | (show (Addr.add _ _).block ≠ _; rw [add_block]; exact hn207_3) | exact hn207_3) (.slice Ao47 t202.length co47)).trans hx207_0
                                clear hn207_0
                                clear hn207_1
                                clear hn207_2
                                clear hn207_3
                                replace p207 := eq_true p207
                                replace q207 := eq_true q207
                                have p208 : 0 ≤ (1 : Int) := (by omega)
                                have q208 : 1 < (x13_16.length : Int) := of_decide_eq_true (by first | (with_reducible assumption) | assumption)
                                obtain ⟨ad208, e208, hx208_0⟩ := Kd.at_int (Kd.R_reads' HO_13.out).2.2 1 p208 q208
                                obtain rfl : ad207 = ad208 := (by injection e208)
                                (try simp only [show (1 : Int).toNat = 1 from rfl, Nat.reduceMul, Nat.reduceEqDiff, Go.Addr.add, ↓reduceIte] at hx208_0)
                                have qi208 : (1 < x13_16.length) = True := eq_true (by omega)
                                (try rw [show ((1 : Int)).toNat = 1 from rfl] at hx208_0)
                                have hn208_0 : ad207.block ≠ gb206 := Kd.own_blk (Kd.R_ne HO_13.out BK206.out (by decide))
                                have hn208_1 : ad207.block ≠ gb206 := Kd.own_blk (Kd.R_ne HO_13.out BK206.out (by decide))
                                have hn208_2 : ad207.block ≠ gb206 := Kd.own_blk (Kd.R_ne HO_13.out BK206.out (by decide))
                                have hn208_3 : ad207.block ≠ gb206 := Kd.own_blk (Kd.R_ne HO_13.out BK206.out (by decide))
                                replace hx208_0 := (cell_far (p := ⟨gb206, 0, none⟩) (by first | (rw [add_block]; exact hn208_0) | (show (Addr.add _ _).block ≠ _; rw [add_block]; exact hn208_0) | exact hn208_0) (.int .u8 t199)).trans hx208_0
                                replace hx208_0 := (cell_far (p := ⟨gb206, 1, none⟩) (by first | (rw [add_block]; exact hn208_1) | (show (Addr.add _ _).block ≠ _; rw [add_block]; exact hn208_1) | exact hn208_1) (.bool t200)).trans hx208_0
                                replace hx208_0 := (cell_far (p := ⟨gb206, 2, none⟩) (by first | (rw [add_block]; exact hn208_2) | (show (Addr.add _ _).block ≠ _; rw [add_block]; exact hn208_2) | exact hn208_2) (.bool t201)).trans hx208_0
                                replace hx208_0 := (cell_far (p := ⟨gb206, 3, none⟩) (by first | (rw [add_block]; exact hn208_3) | (show (Addr.add _ _).block ≠ _; rw [add_block]; exact hn208_3) | exact hn208_3) (.slice Ao47 t202.length co47)).trans hx208_0
                                clear hn208_0
                                clear hn208_1
                                clear hn208_2
                                clear hn208_3
                                replace p208 := eq_true p208
                                replace q208 := eq_true q208
                                go_wp2
                                go_meet
                                case rel => exact ⟨_, (true), (by first | rfl | (simp; done) | (simp [*]; done)), H', ⟨by have := HJ3.out; have := HK2.out; have := HJ16.out; first | omega | exact Nat.le_refl _⟩, ⟨by (with_reducible repeat (first | apply Kd.R_alloc | apply Kd.R_drewN | apply Kd.R_drew)); exact Kd.R_mono (Kd.R_far (p := ⟨gb206, 3, none⟩) (Kd.R_far (p := ⟨gb206, 2, none⟩) (Kd.R_far (p := ⟨gb206, 1, none⟩) (Kd.R_far (p := ⟨gb206, 0, none⟩) (Kd.R_types HO_7.out BK206.out (by decide)) (fun _ hk => hk.2) (.int .u8 t199)) (fun _ hk => hk.2) (.bool t200)) (fun _ hk => hk.2) (.bool t201)) (fun _ hk => hk.2) (.slice Ao47 t202.length co47)) (fun _ hk => ⟨hk.1.1.1.2, ⟨hk.1.1.2, hk.1.2⟩⟩)⟩, ⟨by (with_reducible repeat (first | apply Kd.R_alloc | apply Kd.R_drewN | apply Kd.R_drew)); exact Kd.R_mono (Kd.R_far (p := ⟨gb206, 3, none⟩) (Kd.R_far (p := ⟨gb206, 2, none⟩) (Kd.R_far (p := ⟨gb206, 1, none⟩) (Kd.R_far (p := ⟨gb206, 0, none⟩) (Kd.R_types HO_9.out BK206.out (by decide)) (fun _ hk => hk.2) (.int .u8 t199)) (fun _ hk => hk.2) (.bool t200)) (fun _ hk => hk.2) (.bool t201)) (fun _ hk => hk.2) (.slice Ao47 t202.length co47)) (fun _ hk => trivial)⟩, ⟨by (with_reducible repeat (first | apply Kd.R_alloc | apply Kd.R_drewN | apply Kd.R_drew)); exact Kd.R_mono (Kd.R_far (p := ⟨gb206, 3, none⟩) (Kd.R_far (p := ⟨gb206, 2, none⟩) (Kd.R_far (p := ⟨gb206, 1, none⟩) (Kd.R_far (p := ⟨gb206, 0, none⟩) (Kd.R_types HO188.out BK206.out (by decide)) (fun _ hk => hk.2) (.int .u8 t199)) (fun _ hk => hk.2) (.bool t200)) (fun _ hk => hk.2) (.bool t201)) (fun _ hk => hk.2) (.slice Ao47 t202.length co47)) (fun _ hk => ⟨hk.1.1.1.2, ⟨hk.1.1.2, hk.1.2⟩⟩)⟩, ⟨by (with_reducible repeat (first | apply Kd.R_alloc | apply Kd.R_drewN | apply Kd.R_drew)); exact Kd.R_mono (Kd.R_far (p := ⟨gb206, 3, none⟩) (Kd.R_far (p := ⟨gb206, 2, none⟩) (Kd.R_far (p := ⟨gb206, 1, none⟩) (Kd.R_far (p := ⟨gb206, 0, none⟩) (Kd.R_types HO196.out BK206.out (by decide)) (fun _ hk => hk.2) (.int .u8 t199)) (fun _ hk => hk.2) (.bool t200)) (fun _ hk => hk.2) (.bool t201)) (fun _ hk => hk.2) (.slice Ao47 t202.length co47)) (fun _ hk => ⟨hk.1.1.1.2, ⟨hk.1.1.2, hk.1.2⟩⟩)⟩, ⟨by (with_reducible repeat (first | apply Kd.R_alloc | apply Kd.R_drewN | apply Kd.R_drew)); exact Kd.R_mono (Kd.R_far (p := ⟨gb206, 3, none⟩) (Kd.R_far (p := ⟨gb206, 2, none⟩) (Kd.R_far (p := ⟨gb206, 1, none⟩) (Kd.R_far (p := ⟨gb206, 0, none⟩) (Kd.R_types HO204.out BK206.out (by decide)) (fun _ hk => hk.2) (.int .u8 t199)) (fun _ hk => hk.2) (.bool t200)) (fun _ hk => hk.2) (.bool t201)) (fun _ hk => hk.2) (.slice Ao47 t202.length co47)) (fun _ hk => ⟨hk.1.1.1.2, ⟨hk.1.1.2, hk.1.2⟩⟩)⟩, ⟨by (with_reducible repeat (first | refine blk_drewN ?_ _ | refine blk_drew ?_ | refine blk_alloc ?_ _)); refine blk_far ?_ NB190_206.out _; (with_reducible repeat (first | refine blk_drewN ?_ _ | refine blk_drew ?_ | refine blk_alloc ?_ _)); refine blk_far ?_ NB190_206.out _; (with_reducible repeat (first | refine blk_drewN ?_ _ | refine blk_drew ?_ | refine blk_alloc ?_ _)); refine blk_far ?_ NB190_206.out _; (with_reducible repeat (first | refine blk_drewN ?_ _ | refine blk_drew ?_ | refine blk_alloc ?_ _)); refine blk_far ?_ NB190_206.out _; (with_reducible repeat (first | refine blk_drewN ?_ _ | refine blk_drew ?_ | refine blk_alloc ?_ _)); exact BK190.out⟩, ⟨by (with_reducible repeat (first | refine blk_drewN ?_ _ | refine blk_drew ?_ | refine blk_alloc ?_ _)); refine blk_far ?_ NB198_206.out _; (with_reducible repeat (first | refine blk_drewN ?_ _ | refine blk_drew ?_ | refine blk_alloc ?_ _)); refine blk_far ?_ NB198_206.out _; (with_reducible repeat (first | refine blk_drewN ?_ _ | refine blk_drew ?_ | refine blk_alloc ?_ _)); refine blk_far ?_ NB198_206.out _; (with_reducible repeat (first | refine blk_drewN ?_ _ | refine blk_drew ?_ | refine blk_alloc ?_ _)); refine blk_far ?_ NB198_206.out _; (with_reducible repeat (first | refine blk_drewN ?_ _ | refine blk_drew ?_ | refine blk_alloc ?_ _)); exact BK198.out⟩, ⟨by (with_reducible repeat (first | refine blk_drewN ?_ _ | refine blk_drew ?_ | refine blk_alloc ?_ _)); refine blk_put (cs := #[.int .u8 t199, .bool t200, .bool t201, .slice none 0 0]) ?_ 3 _ rfl; (with_reducible repeat (first | refine blk_drewN ?_ _ | refine blk_drew ?_ | refine blk_alloc ?_ _)); refine blk_put (cs := #[.int .u8 t199, .bool t200, .bool false, .slice none 0 0]) ?_ 2 _ rfl; (with_reducible repeat (first | refine blk_drewN ?_ _ | refine blk_drew ?_ | refine blk_alloc ?_ _)); refine blk_put (cs := #[.int .u8 t199, .bool false, .bool false, .slice none 0 0]) ?_ 1 _ rfl; (with_reducible repeat (first | refine blk_drewN ?_ _ | refine blk_drew ?_ | refine blk_alloc ?_ _)); refine blk_put (cs := #[.int .u8 0, .bool false, .bool false, .slice none 0 0]) ?_ 0 _ rfl; (with_reducible repeat (first | refine blk_drewN ?_ _ | refine blk_drew ?_ | refine blk_alloc ?_ _)); exact BK206.out⟩, ⟨by repeat (first | (with_reducible first | exact HB.out | apply below_alloc | apply pw_below_drewN | apply below_drew1 | refine below_set ?_ GE190.out | refine below_set ?_ GE198.out | refine below_set ?_ GE206.out) | exact HB.out)⟩⟩
                              · rw [if_neg c53] at H
                                have c53b0 : ((rd x13_16 1) == 254) = false := beq_eq_false_iff_ne.mpr c53
                                have c53b1 : ((rd x13_16 1) != 254) = true := bne_iff_ne.mpr c53
                                by_cases c54 : (rd x13_16 0) = 254
                                · rw [if_pos c54] at H
                                  have c54b0 : ((rd x13_16 0) == 254) = true := beq_iff_eq.mpr c54
                                  have c54b1 : ((rd x13_16 0) != 254) = false := bne_eq_false_iff_eq.mpr c54
                                  clear c54
                                  have H' := Aside0.mk H
                                  clear H
                                  have p207 : 0 ≤ (0 : Int) := (by omega)
                                  have q207 : 0 < (x13_16.length : Int) := of_decide_eq_true (by first | (with_reducible assumption) | assumption)
                                  obtain ⟨ad207, e207, hx207_0⟩ := Kd.at_int (Kd.R_reads' HO_13.out).2.2 0 p207 q207
                                  cases e207
                                  have qi207 : (0 < x13_16.length) = True := eq_true (by omega)
                                  (try rw [show ((0 : Int)).toNat = 0 from rfl] at hx207_0)
                                  (try rw [Addr.add_zero'] at hx207_0)
                                  have hn207_0 : ad207.block ≠ gb206 := Kd.own_blk (Kd.R_ne HO_13.out BK206.out (by decide))
                                  have hn207_1 : ad207.block ≠ gb206 := Kd.own_blk (Kd.R_ne HO_13.out BK206.out (by decide))
                                  have hn207_2 : ad207.block ≠ gb206 := Kd.own_blk (Kd.R_ne HO_13.out BK206.out (by decide))
                                  have hn207_3 : ad207.block ≠ gb206 := Kd.own_blk (Kd.R_ne HO_13.out BK206.out (by decide))
                                  replace hx207_0 := (cell_far (p := ⟨gb206, 0, none⟩) (by first | (rw [add_block]; exact hn207_0) | (show (Addr.add _ _).block ≠ _; rw [add_block]; exact hn207_0) | exact hn207_0) (.int .u8 t199)).trans hx207_0
                                  replace hx207_0 := (cell_far (p := ⟨gb206, 1, none⟩) (by first | (rw [add_block]; exact hn207_1) | (show (Addr.add _ _).block ≠ _; rw [add_block]; exact hn207_1) | exact hn207_1) (.bool t200)).trans hx207_0
                                  replace hx207_0 := (cell_far (p := ⟨gb206, 2, none⟩) (by first | (rw [add_block]; exact hn207_2) | (show (Addr.add _ _).block ≠ _; rw [add_block]; exact hn207_2) | exact hn207_2) (.bool t201)).trans hx207_0
                                  replace hx207_0 := (cell_far (p := ⟨gb206, 3, none⟩) (by first | (rw [add_block]; exact hn207_3) | (show (Addr.add _ _).block ≠ _; rw [add_block]; exact hn207_3) | exact hn207_3) (.slice Ao47 t202.length co47)).trans hx207_0
                                  clear hn207_0
                                  clear hn207_1
                                  clear hn207_2
                                  clear hn207_3
                                  replace p207 := eq_true p207
                                  replace q207 := eq_true q207
                                  have p208 : 0 ≤ (1 : Int) := (by omega)
                                  have q208 : 1 < (x13_16.length : Int) := of_decide_eq_true (by first | (with_reducible assumption) | assumption)
                                  obtain ⟨ad208, e208, hx208_0⟩ := Kd.at_int (Kd.R_reads' HO_13.out).2.2 1 p208 q208
                                  obtain rfl : ad207 = ad208 := (by injection e208)
                                  (try simp only [show (1 : Int).toNat = 1 from rfl, Nat.reduceMul, Nat.reduceEqDiff, Go.Addr.add, ↓reduceIte] at hx208_0)
                                  have qi208 : (1 < x13_16.length) = True := eq_true (by omega)
                                  (try rw [show ((1 : Int)).toNat = 1 from rfl] at hx208_0)
                                  have hn208_0 : ad207.block ≠ gb206 := Kd.own_blk (Kd.R_ne HO_13.out BK206.out (by decide))
                                  have hn208_1 : ad207.block ≠ gb206 := Kd.own_blk (Kd.R_ne HO_13.out BK206.out (by decide))
                                  have hn208_2 : ad207.block ≠ gb206 := Kd.own_blk (Kd.R_ne HO_13.out BK206.out (by decide))
                                  have hn208_3 : ad207.block ≠ gb206 := Kd.own_blk (Kd.R_ne HO_13.out BK206.out (by decide))
                                  replace hx208_0 := (cell_far (p := ⟨gb206, 0, none⟩) (by first | (rw [add_block]; exact hn208_0) | (show (Addr.add _ _).block ≠ _; rw [add_block]; exact hn208_0) | exact hn208_0) (.int .u8 t199)).trans hx208_0
                                  replace hx208_0 := (cell_far (p := ⟨gb206, 1, none⟩) (by first | (rw [add_block]; exact hn208_1) | (show (Addr.add _ _).block ≠ _; rw [add_block]; exact hn208_1) | exact hn208_1) (.bool t200)).trans hx208_0
                                  replace hx208_0 := (cell_far (p := ⟨gb206, 2, none⟩) (by first | (rw [add_block]; exact hn208_2) | (show (Addr.add _ _).block ≠ _; rw [add_block]; exact hn208_2) | exact hn208_2) (.bool t201)).trans hx208_0
                                  replace hx208_0 := (cell_far (p := ⟨gb206, 3, none⟩) (by first | (rw [add_block]; exact hn208_3) | (show (Addr.add _ _).block ≠ _; rw [add_block]; exact hn208_3) | exact hn208_3) (.slice Ao47 t202.length co47)).trans hx208_0
                                  clear hn208_0
                                  clear hn208_1
                                  clear hn208_2
                                  clear hn208_3
                                  replace p208 := eq_true p208
                                  replace q208 := eq_true q208
                                  have p209 : 0 ≤ (0 : Int) := (by omega)
                                  have q209 : 0 < (x13_16.length : Int) := of_decide_eq_true (by first | (with_reducible assumption) | assumption)
                                  obtain ⟨ad209, e209, hx209_0⟩ := Kd.at_int (Kd.R_reads' HO_13.out).2.2 0 p209 q209
                                  obtain rfl : ad207 = ad209 := (by injection e209)
                                  have qi209 : (0 < x13_16.length) = True := eq_true (by omega)
                                  (try rw [show ((0 : Int)).toNat = 0 from rfl] at hx209_0)
                                  (try rw [Addr.add_zero'] at hx209_0)
                                  have hn209_0 : ad207.block ≠ gb206 := Kd.own_blk (Kd.R_ne HO_13.out BK206.out (by decide))
                                  have hn209_1 : ad207.block ≠ gb206 := Kd.own_blk (Kd.R_ne HO_13.out BK206.out (by decide))
                                  have hn209_2 : ad207.block ≠ gb206 := Kd.own_blk (Kd.R_ne HO_13.out BK206.out (by decide))
                                  have hn209_3 : ad207.block ≠ gb206 := Kd.own_blk (Kd.R_ne HO_13.out BK206.out (by decide))
                                  replace hx209_0 := (cell_far (p := ⟨gb206, 0, none⟩) (by first | (rw [add_block]; exact hn209_0) | (show (Addr.add _ _).block ≠ _; rw [add_block]; exact hn209_0) | exact hn209_0) (.int .u8 t199)).trans hx209_0
                                  replace hx209_0 := (cell_far (p := ⟨gb206, 1, none⟩) (by first | (rw [add_block]; exact hn209_1) | (show (Addr.add _ _).block ≠ _; rw [add_block]; exact hn209_1) | exact hn209_1) (.bool t200)).trans hx209_0
                                  replace hx209_0 := (cell_far (p := ⟨gb206, 2, none⟩) (by first | (rw [add_block]; exact hn209_2) | (show (Addr.add _ _).block ≠ _; rw [add_block]; exact hn209_2) | exact hn209_2) (.bool t201)).trans hx209_0
                                  replace hx209_0 := (cell_far (p := ⟨gb206, 3, none⟩) (by first | (rw [add_block]; exact hn209_3) | (show (Addr.add _ _).block ≠ _; rw [add_block]; exact hn209_3) | exact hn209_3) (.slice Ao47 t202.length co47)).trans hx209_0
                                  clear hn209_0
                                  clear hn209_1
                                  clear hn209_2
                                  clear hn209_3
                                  replace p209 := eq_true p209
                                  replace q209 := eq_true q209
                                  have p210 : 0 ≤ (1 : Int) := (by omega)
                                  have q210 : 1 < (x13_16.length : Int) := of_decide_eq_true (by first | (with_reducible assumption) | assumption)
                                  obtain ⟨ad210, e210, hx210_0⟩ := Kd.at_int (Kd.R_reads' HO_13.out).2.2 1 p210 q210
                                  obtain rfl : ad207 = ad210 := (by injection e210)
                                  (try simp only [show (1 : Int).toNat = 1 from rfl, Nat.reduceMul, Nat.reduceEqDiff, Go.Addr.add, ↓reduceIte] at hx210_0)
                                  have qi210 : (1 < x13_16.length) = True := eq_true (by omega)
                                  (try rw [show ((1 : Int)).toNat = 1 from rfl] at hx210_0)
                                  have hn210_0 : ad207.block ≠ gb206 := Kd.own_blk (Kd.R_ne HO_13.out BK206.out (by decide))
                                  have hn210_1 : ad207.block ≠ gb206 := Kd.own_blk (Kd.R_ne HO_13.out BK206.out (by decide))
                                  have hn210_2 : ad207.block ≠ gb206 := Kd.own_blk (Kd.R_ne HO_13.out BK206.out (by decide))
                                  have hn210_3 : ad207.block ≠ gb206 := Kd.own_blk (Kd.R_ne HO_13.out BK206.out (by decide))
                                  replace hx210_0 := (cell_far (p := ⟨gb206, 0, none⟩) (by first | (rw [add_block]; exact hn210_0) | (show (Addr.add _ _).block ≠ _; rw [add_block]; exact hn210_0) | exact hn210_0) (.int .u8 t199)).trans hx210_0
                                  replace hx210_0 := (cell_far (p := ⟨gb206, 1, none⟩) (by first | (rw [add_block]; exact hn210_1) | (show (Addr.add _ _).block ≠ _; rw [add_block]; exact hn210_1) | exact hn210_1) (.bool t200)).trans hx210_0
                                  replace hx210_0 := (cell_far (p := ⟨gb206, 2, none⟩) (by first | (rw [add_block]; exact hn210_2) | (show (Addr.add _ _).block ≠ _; rw [add_block]; exact hn210_2) | exact hn210_2) (.bool t201)).trans hx210_0
                                  replace hx210_0 := (cell_far (p := ⟨gb206, 3, none⟩) (by first | (rw [add_block]; exact hn210_3) | (show (Addr.add _ _).block ≠ _; rw [add_block]; exact hn210_3) | exact hn210_3) (.slice Ao47 t202.length co47)).trans hx210_0
                                  clear hn210_0
                                  clear hn210_1
                                  clear hn210_2
                                  clear hn210_3
                                  replace p210 := eq_true p210
                                  replace q210 := eq_true q210
                                  go_wp2
                                  go_meet
                                  case rel => exact ⟨_, (((rd x13_16 1) == 255)), (by first | rfl | (simp; done) | (simp [*]; done)), H', ⟨by have := HJ3.out; have := HK2.out; have := HJ16.out; first | omega | exact Nat.le_refl _⟩, ⟨by (with_reducible repeat (first | apply Kd.R_alloc | apply Kd.R_drewN | apply Kd.R_drew)); exact Kd.R_mono (Kd.R_far (p := ⟨gb206, 3, none⟩) (Kd.R_far (p := ⟨gb206, 2, none⟩) (Kd.R_far (p := ⟨gb206, 1, none⟩) (Kd.R_far (p := ⟨gb206, 0, none⟩) (Kd.R_types HO_7.out BK206.out (by decide)) (fun _ hk => hk.2) (.int .u8 t199)) (fun _ hk => hk.2) (.bool t200)) (fun _ hk => hk.2) (.bool t201)) (fun _ hk => hk.2) (.slice Ao47 t202.length co47)) (fun _ hk => ⟨hk.1.1.1.2, ⟨hk.1.1.2, hk.1.2⟩⟩)⟩, ⟨by (with_reducible repeat (first | apply Kd.R_alloc | apply Kd.R_drewN | apply Kd.R_drew)); exact Kd.R_mono (Kd.R_far (p := ⟨gb206, 3, none⟩) (Kd.R_far (p := ⟨gb206, 2, none⟩) (Kd.R_far (p := ⟨gb206, 1, none⟩) (Kd.R_far (p := ⟨gb206, 0, none⟩) (Kd.R_types HO_9.out BK206.out (by decide)) (fun _ hk => hk.2) (.int .u8 t199)) (fun _ hk => hk.2) (.bool t200)) (fun _ hk => hk.2) (.bool t201)) (fun _ hk => hk.2) (.slice Ao47 t202.length co47)) (fun _ hk => trivial)⟩, ⟨by (with_reducible repeat (first | apply Kd.R_alloc | apply Kd.R_drewN | apply Kd.R_drew)); exact Kd.R_mono (Kd.R_far (p := ⟨gb206, 3, none⟩) (Kd.R_far (p := ⟨gb206, 2, none⟩) (Kd.R_far (p := ⟨gb206, 1, none⟩) (Kd.R_far (p := ⟨gb206, 0, none⟩) (Kd.R_types HO188.out BK206.out (by decide)) (fun _ hk => hk.2) (.int .u8 t199)) (fun _ hk => hk.2) (.bool t200)) (fun _ hk => hk.2) (.bool t201)) (fun _ hk => hk.2) (.slice Ao47 t202.length co47)) (fun _ hk => ⟨hk.1.1.1.2, ⟨hk.1.1.2, hk.1.2⟩⟩)⟩, ⟨by (with_reducible repeat (first | apply Kd.R_alloc | apply Kd.R_drewN | apply Kd.R_drew)); exact Kd.R_mono (Kd.R_far (p := ⟨gb206, 3, none⟩) (Kd.R_far (p := ⟨gb206, 2, none⟩) (Kd.R_far (p := ⟨gb206, 1, none⟩) (Kd.R_far (p := ⟨gb206, 0, none⟩) (Kd.R_types HO196.out BK206.out (by decide)) (fun _ hk => hk.2) (.int .u8 t199)) (fun _ hk => hk.2) (.bool t200)) (fun _ hk => hk.2) (.bool t201)) (fun _ hk => hk.2) (.slice Ao47 t202.length co47)) (fun _ hk => ⟨hk.1.1.1.2, ⟨hk.1.1.2, hk.1.2⟩⟩)⟩, ⟨by (with_reducible repeat (first | apply Kd.R_alloc | apply Kd.R_drewN | apply Kd.R_drew)); exact Kd.R_mono (Kd.R_far (p := ⟨gb206, 3, none⟩) (Kd.R_far (p := ⟨gb206, 2, none⟩) (Kd.R_far (p := ⟨gb206, 1, none⟩) (Kd.R_far (p := ⟨gb206, 0, none⟩) (Kd.R_types HO204.out BK206.out (by decide)) (fun _ hk => hk.2) (.int .u8 t199)) (fun _ hk => hk.2) (.bool t200)) (fun _ hk => hk.2) (.bool t201)) (fun _ hk => hk.2) (.slice Ao47 t202.length co47)) (fun _ hk => ⟨hk.1.1.1.2, ⟨hk.1.1.2, hk.1.2⟩⟩)⟩, ⟨by (with_reducible repeat (first | refine blk_drewN ?_ _ | refine blk_drew ?_ | refine blk_alloc ?_ _)); refine blk_far ?_ NB190_206.out _; (with_reducible repeat (first | refine blk_drewN ?_ _ | refine blk_drew ?_ | refine blk_alloc ?_ _)); refine blk_far ?_ NB190_206.out _; (with_reducible repeat (first | refine blk_drewN ?_ _ | refine blk_drew ?_ | refine blk_alloc ?_ _)); refine blk_far ?_ NB190_206.out _; (with_reducible repeat (first | refine blk_drewN ?_ _ | refine blk_drew ?_ | refine blk_alloc ?_ _)); refine blk_far ?_ NB190_206.out _; (with_reducible repeat (first | refine blk_drewN ?_ _ | refine blk_drew ?_ | refine blk_alloc ?_ _)); exact BK190.out⟩, ⟨by (with_reducible repeat (first | refine blk_drewN ?_ _ | refine blk_drew ?_ | refine blk_alloc ?_ _)); refine blk_far ?_ NB198_206.out _; (with_reducible repeat (first | refine blk_drewN ?_ _ | refine blk_drew ?_ | refine blk_alloc ?_ _)); refine blk_far ?_ NB198_206.out _; (with_reducible repeat (first | refine blk_drewN ?_ _ | refine blk_drew ?_ | refine blk_alloc ?_ _)); refine blk_far ?_ NB198_206.out _; (with_reducible repeat (first | refine blk_drewN ?_ _ | refine blk_drew ?_ | refine blk_alloc ?_ _)); refine blk_far ?_ NB198_206.out _; (with_reducible repeat (first | refine blk_drewN ?_ _ | refine blk_drew ?_ | refine blk_alloc ?_ _)); exact BK198.out⟩, ⟨by (with_reducible repeat (first | refine blk_drewN ?_ _ | refine blk_drew ?_ | refine blk_alloc ?_ _)); refine blk_put (cs := #[.int .u8 t199, .bool t200, .bool t201, .slice none 0 0]) ?_ 3 _ rfl; (with_reducible repeat (first | refine blk_drewN ?_ _ | refine blk_drew ?_ | refine blk_alloc ?_ _)); refine blk_put (cs := #[.int .u8 t199, .bool t200, .bool false, .slice none 0 0]) ?_ 2 _ rfl; (with_reducible repeat (first | refine blk_drewN ?_ _ | refine blk_drew ?_ | refine blk_alloc ?_ _)); refine blk_put (cs := #[.int .u8 t199, .bool false, .bool false, .slice none 0 0]) ?_ 1 _ rfl; (with_reducible repeat (first | refine blk_drewN ?_ _ | refine blk_drew ?_ | refine blk_alloc ?_ _)); refine blk_put (cs := #[.int .u8 0, .bool false, .bool false, .slice none 0 0]) ?_ 0 _ rfl; (with_reducible repeat (first | refine blk_drewN ?_ _ | refine blk_drew ?_ | refine blk_alloc ?_ _)); exact BK206.out⟩, ⟨by repeat (first | (with_reducible first | exact HB.out | apply below_alloc | apply pw_below_drewN | apply below_drew1 | refine below_set ?_ GE190.out | refine below_set ?_ GE198.out | refine below_set ?_ GE206.out) | exact HB.out)⟩⟩
                                · rw [if_neg c54] at H
                                  have c54b0 : ((rd x13_16 0) == 254) = false := beq_eq_false_iff_ne.mpr c54
                                  have c54b1 : ((rd x13_16 0) != 254) = true := bne_iff_ne.mpr c54
                                  have H' := Aside0.mk H
                                  clear H
                                  have p207 : 0 ≤ (0 : Int) := (by omega)
                                  have q207 : 0 < (x13_16.length : Int) := of_decide_eq_true (by first | (with_reducible assumption) | assumption)
                                  obtain ⟨ad207, e207, hx207_0⟩ := Kd.at_int (Kd.R_reads' HO_13.out).2.2 0 p207 q207
                                  cases e207
                                  have qi207 : (0 < x13_16.length) = True := eq_true (by omega)
                                  (try rw [show ((0 : Int)).toNat = 0 from rfl] at hx207_0)
                                  (try rw [Addr.add_zero'] at hx207_0)
                                  have hn207_0 : ad207.block ≠ gb206 := Kd.own_blk (Kd.R_ne HO_13.out BK206.out (by decide))
                                  have hn207_1 : ad207.block ≠ gb206 := Kd.own_blk (Kd.R_ne HO_13.out BK206.out (by decide))
                                  have hn207_2 : ad207.block ≠ gb206 := Kd.own_blk (Kd.R_ne HO_13.out BK206.out (by decide))
                                  have hn207_3 : ad207.block ≠ gb206 := Kd.own_blk (Kd.R_ne HO_13.out BK206.out (by decide))
                                  replace hx207_0 := (cell_far (p := ⟨gb206, 0, none⟩) (by first | (rw [add_block]; exact hn207_0) | (show (Addr.add _ _).block ≠ _; rw [add_block]; exact hn207_0) | exact hn207_0) (.int .u8 t199)).trans hx207_0
                                  replace hx207_0 := (cell_far (p := ⟨gb206, 1, none⟩) (by first | (rw [add_block]; exact hn207_1) | (show (Addr.add _ _).block ≠ _; rw [add_block]; exact hn207_1) | exact hn207_1) (.bool t200)).trans hx207_0
                                  replace hx207_0 := (cell_far (p := ⟨gb206, 2, none⟩) (by first | (rw [add_block]; exact hn207_2) | (show (Addr.add _ _).block ≠ _; rw [add_block]; exact hn207_2) | exact hn207_2) (.bool t201)).trans hx207_0
                                  replace hx207_0 := (cell_far (p := ⟨gb206, 3, none⟩) (by first | (rw [add_block]; exact hn207_3) | (show (Addr.add _ _).block ≠ _; rw [add_block]; exact hn207_3) | exact hn207_3) (.slice Ao47 t202.length co47)).trans hx207_0
                                  clear hn207_0
                                  clear hn207_1
                                  clear hn207_2
                                  clear hn207_3
                                  replace p207 := eq_true p207
                                  replace q207 := eq_true q207
                                  have p208 : 0 ≤ (1 : Int) := (by omega)
                                  have q208 : 1 < (x13_16.length : Int) := of_decide_eq_true (by first | (with_reducible assumption) | assumption)
                                  obtain ⟨ad208, e208, hx208_0⟩ := Kd.at_int (Kd.R_reads' HO_13.out).2.2 1 p208 q208
                                  obtain rfl : ad207 = ad208 := (by injection e208)
                                  (try simp only [show (1 : Int).toNat = 1 from rfl, Nat.reduceMul, Nat.reduceEqDiff, Go.Addr.add, ↓reduceIte] at hx208_0)
                                  have qi208 : (1 < x13_16.length) = True := eq_true (by omega)
                                  (try rw [show ((1 : Int)).toNat = 1 from rfl] at hx208_0)
                                  have hn208_0 : ad207.block ≠ gb206 := Kd.own_blk (Kd.R_ne HO_13.out BK206.out (by decide))
                                  have hn208_1 : ad207.block ≠ gb206 := Kd.own_blk (Kd.R_ne HO_13.out BK206.out (by decide))
                                  have hn208_2 : ad207.block ≠ gb206 := Kd.own_blk (Kd.R_ne HO_13.out BK206.out (by decide))
                                  have hn208_3 : ad207.block ≠ gb206 := Kd.own_blk (Kd.R_ne HO_13.out BK206.out (by decide))
                                  replace hx208_0 := (cell_far (p := ⟨gb206, 0, none⟩) (by first | (rw [add_block]; exact hn208_0) | (show (Addr.add _ _).block ≠ _; rw [add_block]; exact hn208_0) | exact hn208_0) (.int .u8 t199)).trans hx208_0
                                  replace hx208_0 := (cell_far (p := ⟨gb206, 1, none⟩) (by first | (rw [add_block]; exact hn208_1) | (show (Addr.add _ _).block ≠ _; rw [add_block]; exact hn208_1) | exact hn208_1) (.bool t200)).trans hx208_0
                                  replace hx208_0 := (cell_far (p := ⟨gb206, 2, none⟩) (by first | (rw [add_block]; exact hn208_2) | (show (Addr.add _ _).block ≠ _; rw [add_block]; exact hn208_2) | exact hn208_2) (.bool t201)).trans hx208_0
                                  replace hx208_0 := (cell_far (p := ⟨gb206, 3, none⟩) (by first | (rw [add_block]; exact hn208_3) | (show (Addr.add _ _).block ≠ _; rw [add_block]; exact hn208_3) | exact hn208_3) (.slice Ao47 t202.length co47)).trans hx208_0
                                  clear hn208_0
                                  clear hn208_1
                                  clear hn208_2
                                  clear hn208_3
                                  replace p208 := eq_true p208
                                  replace q208 := eq_true q208
                                  have p209 : 0 ≤ (0 : Int) := (by omega)
                                  have q209 : 0 < (x13_16.length : Int) := of_decide_eq_true (by first | (with_reducible assumption) | assumption)
                                  obtain ⟨ad209, e209, hx209_0⟩ := Kd.at_int (Kd.R_reads' HO_13.out).2.2 0 p209 q209
                                  obtain rfl : ad207 = ad209 := (by injection e209)
                                  have qi209 : (0 < x13_16.length) = True := eq_true (by omega)
                                  (try rw [show ((0 : Int)).toNat = 0 from rfl] at hx209_0)
                                  (try rw [Addr.add_zero'] at hx209_0)
                                  have hn209_0 : ad207.block ≠ gb206 := Kd.own_blk (Kd.R_ne HO_13.out BK206.out (by decide))
                                  have hn209_1 : ad207.block ≠ gb206 := Kd.own_blk (Kd.R_ne HO_13.out BK206.out (by decide))
                                  have hn209_2 : ad207.block ≠ gb206 := Kd.own_blk (Kd.R_ne HO_13.out BK206.out (by decide))
                                  have hn209_3 : ad207.block ≠ gb206 := Kd.own_blk (Kd.R_ne HO_13.out BK206.out (by decide))
                                  replace hx209_0 := (cell_far (p := ⟨gb206, 0, none⟩) (by first | (rw [add_block]; exact hn209_0) | (show (Addr.add _ _).block ≠ _; rw [add_block]; exact hn209_0) | exact hn209_0) (.int .u8 t199)).trans hx209_0
                                  replace hx209_0 := (cell_far (p := ⟨gb206, 1, none⟩) (by first | (rw [add_block]; exact hn209_1) | (show (Addr.add _ _).block ≠ _; rw [add_block]; exact hn209_1) | exact hn209_1) (.bool t200)).trans hx209_0
                                  replace hx209_0 := (cell_far (p := ⟨gb206, 2, none⟩) (by first | (rw [add_block]; exact hn209_2) | (show (Addr.add _ _).block ≠ _; rw [add_block]; exact hn209_2) | exact hn209_2) (.bool t201)).trans hx209_0
                                  replace hx209_0 := (cell_far (p := ⟨gb206, 3, none⟩) (by first | (rw [add_block]; exact hn209_3) | (show (Addr.add _ _).block ≠ _; rw [add_block]; exact hn209_3) | exact hn209_3) (.slice Ao47 t202.length co47)).trans hx209_0
                                  clear hn209_0
                                  clear hn209_1
                                  clear hn209_2
                                  clear hn209_3
                                  replace p209 := eq_true p209
                                  replace q209 := eq_true q209
                                  go_wp2
                                  go_meet
                                  case rel => exact ⟨_, (false), (by first | rfl | (simp; done) | (simp [*]; done)), H', ⟨by have := HJ3.out; have := HK2.out; have := HJ16.out; first | omega | exact Nat.le_refl _⟩, ⟨by (with_reducible repeat (first | apply Kd.R_alloc | apply Kd.R_drewN | apply Kd.R_drew)); exact Kd.R_mono (Kd.R_far (p := ⟨gb206, 3, none⟩) (Kd.R_far (p := ⟨gb206, 2, none⟩) (Kd.R_far (p := ⟨gb206, 1, none⟩) (Kd.R_far (p := ⟨gb206, 0, none⟩) (Kd.R_types HO_7.out BK206.out (by decide)) (fun _ hk => hk.2) (.int .u8 t199)) (fun _ hk => hk.2) (.bool t200)) (fun _ hk => hk.2) (.bool t201)) (fun _ hk => hk.2) (.slice Ao47 t202.length co47)) (fun _ hk => ⟨hk.1.1.1.2, ⟨hk.1.1.2, hk.1.2⟩⟩)⟩, ⟨by (with_reducible repeat (first | apply Kd.R_alloc | apply Kd.R_drewN | apply Kd.R_drew)); exact Kd.R_mono (Kd.R_far (p := ⟨gb206, 3, none⟩) (Kd.R_far (p := ⟨gb206, 2, none⟩) (Kd.R_far (p := ⟨gb206, 1, none⟩) (Kd.R_far (p := ⟨gb206, 0, none⟩) (Kd.R_types HO_9.out BK206.out (by decide)) (fun _ hk => hk.2) (.int .u8 t199)) (fun _ hk => hk.2) (.bool t200)) (fun _ hk => hk.2) (.bool t201)) (fun _ hk => hk.2) (.slice Ao47 t202.length co47)) (fun _ hk => trivial)⟩, ⟨by (with_reducible repeat (first | apply Kd.R_alloc | apply Kd.R_drewN | apply Kd.R_drew)); exact Kd.R_mono (Kd.R_far (p := ⟨gb206, 3, none⟩) (Kd.R_far (p := ⟨gb206, 2, none⟩) (Kd.R_far (p := ⟨gb206, 1, none⟩) (Kd.R_far (p := ⟨gb206, 0, none⟩) (Kd.R_types HO188.out BK206.out (by decide)) (fun _ hk => hk.2) (.int .u8 t199)) (fun _ hk => hk.2) (.bool t200)) (fun _ hk => hk.2) (.bool t201)) (fun _ hk => hk.2) (.slice Ao47 t202.length co47)) (fun _ hk => ⟨hk.1.1.1.2, ⟨hk.1.1.2, hk.1.2⟩⟩)⟩, ⟨by (with_reducible repeat (first | apply Kd.R_alloc | apply Kd.R_drewN | apply Kd.R_drew)); exact Kd.R_mono (Kd.R_far (p := ⟨gb206, 3, none⟩) (Kd.R_far (p := ⟨gb206, 2, none⟩) (Kd.R_far (p := ⟨gb206, 1, none⟩) (Kd.R_far (p := ⟨gb206, 0, none⟩) (Kd.R_types HO196.out BK206.out (by decide)) (fun _ hk => hk.2) (.int .u8 t199)) (fun _ hk => hk.2) (.bool t200)) (fun _ hk => hk.2) (.bool t201)) (fun _ hk => hk.2) (.slice Ao47 t202.length co47)) (fun _ hk => ⟨hk.1.1.1.2, ⟨hk.1.1.2, hk.1.2⟩⟩)⟩, ⟨by (with_reducible repeat (first | apply Kd.R_alloc | apply Kd.R_drewN | apply Kd.R_drew)); exact Kd.R_mono (Kd.R_far (p := ⟨gb206, 3, none⟩) (Kd.R_far (p := ⟨gb206, 2, none⟩) (Kd.R_far (p := ⟨gb206, 1, none⟩) (Kd.R_far (p := ⟨gb206, 0, none⟩) (Kd.R_types HO204.out BK206.out (by decide)) (fun _ hk => hk.2) (.int .u8 t199)) (fun _ hk => hk.2) (.bool t200)) (fun _ hk => hk.2) (.bool t201)) (fun _ hk => hk.2) (.slice Ao47 t202.length co47)) (fun _ hk => ⟨hk.1.1.1.2, ⟨hk.1.1.2, hk.1.2⟩⟩)⟩, ⟨by (with_reducible repeat (first | refine blk_drewN ?_ _ | refine blk_drew ?_ | refine blk_alloc ?_ _)); refine blk_far ?_ NB190_206.out _; (with_reducible repeat (first | refine blk_drewN ?_ _ | refine blk_drew ?_ | refine blk_alloc ?_ _)); refine blk_far ?_ NB190_206.out _; (with_reducible repeat (first | refine blk_drewN ?_ _ | refine blk_drew ?_ | refine blk_alloc ?_ _)); refine blk_far ?_ NB190_206.out _; (with_reducible repeat (first | refine blk_drewN ?_ _ | refine blk_drew ?_ | refine blk_alloc ?_ _)); refine blk_far ?_ NB190_206.out _; (with_reducible repeat (first | refine blk_drewN ?_ _ | refine blk_drew ?_ | refine blk_alloc ?_ _)); exact BK190.out⟩, ⟨by (with_reducible repeat (first | refine blk_drewN ?_ _ | refine blk_drew ?_ | refine blk_alloc ?_ _)); refine blk_far ?_ NB198_206.out _; (with_reducible repeat (first | refine blk_drewN ?_ _ | refine blk_drew ?_ | refine blk_alloc ?_ _)); refine blk_far ?_ NB198_206.out _; (with_reducible repeat (first | refine blk_drewN ?_ _ | refine blk_drew ?_ | refine blk_alloc ?_ _)); refine blk_far ?_ NB198_206.out _; (with_reducible repeat (first | refine blk_drewN ?_ _ | refine blk_drew ?_ | refine blk_alloc ?_ _)); refine blk_far ?_ NB198_206.out _; (with_reducible repeat (first | refine blk_drewN ?_ _ | refine blk_drew ?_ | refine blk_alloc ?_ _)); exact BK198.out⟩, ⟨by (with_reducible repeat (first | refine blk_drewN ?_ _ | refine blk_drew ?_ | refine blk_alloc ?_ _)); refine blk_put (cs := #[.int .u8 t199, .bool t200, .bool t201, .slice none 0 0]) ?_ 3 _ rfl; (with_reducible repeat (first | refine blk_drewN ?_ _ | refine blk_drew ?_ | refine blk_alloc ?_ _)); refine blk_put (cs := #[.int .u8 t199, .bool t200, .bool false, .slice none 0 0]) ?_ 2 _ rfl; (with_reducible repeat (first | refine blk_drewN ?_ _ | refine blk_drew ?_ | refine blk_alloc ?_ _)); refine blk_put (cs := #[.int .u8 t199, .bool false, .bool false, .slice none 0 0]) ?_ 1 _ rfl; (with_reducible repeat (first | refine blk_drewN ?_ _ | refine blk_drew ?_ | refine blk_alloc ?_ _)); refine blk_put (cs := #[.int .u8 0, .bool false, .bool false, .slice none 0 0]) ?_ 0 _ rfl; (with_reducible repeat (first | refine blk_drewN ?_ _ | refine blk_drew ?_ | refine blk_alloc ?_ _)); exact BK206.out⟩, ⟨by repeat (first | (with_reducible first | exact HB.out | apply below_alloc | apply pw_below_drewN | apply below_drew1 | refine below_set ?_ GE190.out | refine below_set ?_ GE198.out | refine below_set ?_ GE206.out) | exact HB.out)⟩⟩
                            · rw [if_neg c52] at H
                              exact absurd H (by simp)
                          · rw [if_neg c51] at H
                            have c51b0 : ((rd x13_16 0) == 255) = false := beq_eq_false_iff_ne.mpr c51
                            have c51b1 : ((rd x13_16 0) != 255) = true := bne_iff_ne.mpr c51
                            by_cases c55 : (rd x13_16 0) = 254
                            · rw [if_pos c55] at H
                              have c55b0 : ((rd x13_16 0) == 254) = true := beq_iff_eq.mpr c55
                              have c55b1 : ((rd x13_16 0) != 254) = false := bne_eq_false_iff_eq.mpr c55
                              clear c55
                              by_cases c56 : 1 < (x13_16.length : Int)
                              · rw [if_pos c56] at H
                                have c56b0 : decide (1 < (x13_16.length : Int)) = true := decide_eq_true c56
                                have c56b1 : decide (1 < x13_16.length) = true := decide_eq_true (by omega)
                                clear c56
                                have H' := Aside0.mk H
                                clear H
                                have p207 : 0 ≤ (0 : Int) := (by omega)
                                have q207 : 0 < (x13_16.length : Int) := of_decide_eq_true (by first | (with_reducible assumption) | assumption)
                                obtain ⟨ad207, e207, hx207_0⟩ := Kd.at_int (Kd.R_reads' HO_13.out).2.2 0 p207 q207
                                cases e207
                                have qi207 : (0 < x13_16.length) = True := eq_true (by omega)
                                (try rw [show ((0 : Int)).toNat = 0 from rfl] at hx207_0)
                                (try rw [Addr.add_zero'] at hx207_0)
                                have hn207_0 : ad207.block ≠ gb206 := Kd.own_blk (Kd.R_ne HO_13.out BK206.out (by decide))
                                have hn207_1 : ad207.block ≠ gb206 := Kd.own_blk (Kd.R_ne HO_13.out BK206.out (by decide))
                                have hn207_2 : ad207.block ≠ gb206 := Kd.own_blk (Kd.R_ne HO_13.out BK206.out (by decide))
                                have hn207_3 : ad207.block ≠ gb206 := Kd.own_blk (Kd.R_ne HO_13.out BK206.out (by decide))
                                replace hx207_0 := (cell_far (p := ⟨gb206, 0, none⟩) (by first | (rw [add_block]; exact hn207_0) | (show (Addr.add _ _).block ≠ _; rw [add_block]; exact hn207_0) | exact hn207_0) (.int .u8 t199)).trans hx207_0
                                replace hx207_0 := (cell_far (p := ⟨gb206, 1, none⟩) (by first | (rw [add_block]; exact hn207_1) | (show (Addr.add _ _).block ≠ _; rw [add_block]; exact hn207_1) | exact hn207_1) (.bool t200)).trans hx207_0
                                replace hx207_0 := (cell_far (p := ⟨gb206, 2, none⟩) (by first | (rw [add_block]; exact hn207_2) | (show (Addr.add _ _).block ≠ _; rw [add_block]; exact hn207_2) | exact hn207_2) (.bool t201)).trans hx207_0
                                replace hx207_0 := (cell_far (p := ⟨gb206, 3, none⟩) (by first | (rw [add_block]; exact hn207_3) | (show (Addr.add _ _).block ≠ _; rw [add_block]; exact hn207_3) | exact hn207_3) (.slice Ao47 t202.length co47)).trans hx207_0
                                clear hn207_0
                                clear hn207_1
                                clear hn207_2
                                clear hn207_3
                                replace p207 := eq_true p207
                                replace q207 := eq_true q207
                                have p211 : 0 ≤ (0 : Int) := (by omega)
                                have q211 : 0 < (x13_16.length : Int) := of_decide_eq_true (by first | (with_reducible assumption) | assumption)
                                obtain ⟨ad211, e211, hx211_0⟩ := Kd.at_int (Kd.R_reads' HO_13.out).2.2 0 p211 q211
                                obtain rfl : ad207 = ad211 := (by injection e211)
                                have qi211 : (0 < x13_16.length) = True := eq_true (by omega)
                                (try rw [show ((0 : Int)).toNat = 0 from rfl] at hx211_0)
                                (try rw [Addr.add_zero'] at hx211_0)
                                have hn211_0 : ad207.block ≠ gb206 := Kd.own_blk (Kd.R_ne HO_13.out BK206.out (by decide))
                                have hn211_1 : ad207.block ≠ gb206 := Kd.own_blk (Kd.R_ne HO_13.out BK206.out (by decide))
                                have hn211_2 : ad207.block ≠ gb206 := Kd.own_blk (Kd.R_ne HO_13.out BK206.out (by decide))
                                have hn211_3 : ad207.block ≠ gb206 := Kd.own_blk (Kd.R_ne HO_13.out BK206.out (by decide))
                                replace hx211_0 := (cell_far (p := ⟨gb206, 0, none⟩) (by first | (rw [add_block]; exact hn211_0) | (show (Addr.add _ _).block ≠ _; rw [add_block]; exact hn211_0) | exact hn211_0) (.int .u8 t199)).trans hx211_0
                                replace hx211_0 := (cell_far (p := ⟨gb206, 1, none⟩) (by first | (rw [add_block]; exact hn211_1) | (show (Addr.add _ _).block ≠ _; rw [add_block]; exact hn211_1) | exact hn211_1) (.bool t200)).trans hx211_0
                                replace hx211_0 := (cell_far (p := ⟨gb206, 2, none⟩) (by first | (rw [add_block]; exact hn211_2) | (show (Addr.add _ _).block ≠ _; rw [add_block]; exact hn211_2) | exact hn211_2) (.bool t201)).trans hx211_0
                                replace hx211_0 := (cell_far (p := ⟨gb206, 3, none⟩) (by first | (rw [add_block]; exact hn211_3) | (show (Addr.add _ _).block ≠ _; rw [add_block]; exact hn211_3) | exact hn211_3) (.slice Ao47 t202.length co47)).trans hx211_0
                                clear hn211_0
                                clear hn211_1
                                clear hn211_2
                                clear hn211_3
                                replace p211 := eq_true p211
                                replace q211 := eq_true q211
                                have p212 : 0 ≤ (1 : Int) := (by omega)
                                have q212 : 1 < (x13_16.length : Int) := of_decide_eq_true (by first | (with_reducible assumption) | assumption)
                                obtain ⟨ad212, e212, hx212_0⟩ := Kd.at_int (Kd.R_reads' HO_13.out).2.2 1 p212 q212
                                obtain rfl : ad207 = ad212 := (by injection e212)
                                (try simp only [show (1 : Int).toNat = 1 from rfl, Nat.reduceMul, Nat.reduceEqDiff, Go.Addr.add, ↓reduceIte] at hx212_0)
                                have qi212 : (1 < x13_16.length) = True := eq_true (by omega)
                                (try rw [show ((1 : Int)).toNat = 1 from rfl] at hx212_0)
                                have hn212_0 : ad207.block ≠ gb206 := Kd.own_blk (Kd.R_ne HO_13.out BK206.out (by decide))
                                have hn212_1 : ad207.block ≠ gb206 := Kd.own_blk (Kd.R_ne HO_13.out BK206.out (by decide))
                                have hn212_2 : ad207.block ≠ gb206 := Kd.own_blk (Kd.R_ne HO_13.out BK206.out (by decide))
                                have hn212_3 : ad207.block ≠ gb206 := Kd.own_blk (Kd.R_ne HO_13.out BK206.out (by decide))
                                replace hx212_0 := (cell_far (p := ⟨gb206, 0, none⟩) (by first | (rw [add_block]; exact hn212_0) | (show (Addr.add _ _).block ≠ _; rw [add_block]; exact hn212_0) | exact hn212_0) (.int .u8 t199)).trans hx212_0
                                replace hx212_0 := (cell_far (p := ⟨gb206, 1, none⟩) (by first | (rw [add_block]; exact hn212_1) | (show (Addr.add _ _).block ≠ _; rw [add_block]; exact hn212_1) | exact hn212_1) (.bool t200)).trans hx212_0
                                replace hx212_0 := (cell_far (p := ⟨gb206, 2, none⟩) (by first | (rw [add_block]; exact hn212_2) | (show (Addr.add _ _).block ≠ _; rw [add_block]; exact hn212_2) | exact hn212_2) (.bool t201)).trans hx212_0
                                replace hx212_0 := (cell_far (p := ⟨gb206, 3, none⟩) (by first | (rw [add_block]; exact hn212_3) | (show (Addr.add _ _).block ≠ _; rw [add_block]; exact hn212_3) | exact hn212_3) (.slice Ao47 t202.length co47)).trans hx212_0
                                clear hn212_0
                                clear hn212_1
                                clear hn212_2
                                clear hn212_3
                                replace p212 := eq_true p212
                                replace q212 := eq_true q212
                                go_wp2
                                go_meet
                                case rel => exact ⟨_, (((rd x13_16 1) == 255)), (by first | rfl | (simp; done) | (simp [*]; done)), H', ⟨by have := HJ3.out; have := HK2.out; have := HJ16.out; first | omega | exact Nat.le_refl _⟩, ⟨by (with_reducible repeat (first | apply Kd.R_alloc | apply Kd.R_drewN | apply Kd.R_drew)); exact Kd.R_mono (Kd.R_far (p := ⟨gb206, 3, none⟩) (Kd.R_far (p := ⟨gb206, 2, none⟩) (Kd.R_far (p := ⟨gb206, 1, none⟩) (Kd.R_far (p := ⟨gb206, 0, none⟩) (Kd.R_types HO_7.out BK206.out (by decide)) (fun _ hk => hk.2) (.int .u8 t199)) (fun _ hk => hk.2) (.bool t200)) (fun _ hk => hk.2) (.bool t201)) (fun _ hk => hk.2) (.slice Ao47 t202.length co47)) (fun _ hk => ⟨hk.1.1.1.2, ⟨hk.1.1.2, hk.1.2⟩⟩)⟩, ⟨by (with_reducible repeat (first | apply Kd.R_alloc | apply Kd.R_drewN | apply Kd.R_drew)); exact Kd.R_mono (Kd.R_far (p := ⟨gb206, 3, none⟩) (Kd.R_far (p := ⟨gb206, 2, none⟩) (Kd.R_far (p := ⟨gb206, 1, none⟩) (Kd.R_far (p := ⟨gb206, 0, none⟩) (Kd.R_types HO_9.out BK206.out (by decide)) (fun _ hk => hk.2) (.int .u8 t199)) (fun _ hk => hk.2) (.bool t200)) (fun _ hk => hk.2) (.bool t201)) (fun _ hk => hk.2) (.slice Ao47 t202.length co47)) (fun _ hk => trivial)⟩, ⟨by (with_reducible repeat (first | apply Kd.R_alloc | apply Kd.R_drewN | apply Kd.R_drew)); exact Kd.R_mono (Kd.R_far (p := ⟨gb206, 3, none⟩) (Kd.R_far (p := ⟨gb206, 2, none⟩) (Kd.R_far (p := ⟨gb206, 1, none⟩) (Kd.R_far (p := ⟨gb206, 0, none⟩) (Kd.R_types HO188.out BK206.out (by decide)) (fun _ hk => hk.2) (.int .u8 t199)) (fun _ hk => hk.2) (.bool t200)) (fun _ hk => hk.2) (.bool t201)) (fun _ hk => hk.2) (.slice Ao47 t202.length co47)) (fun _ hk => ⟨hk.1.1.1.2, ⟨hk.1.1.2, hk.1.2⟩⟩)⟩, ⟨by (with_reducible repeat (first | apply Kd.R_alloc | apply Kd.R_drewN | apply Kd.R_drew)); exact Kd.R_mono (Kd.R_far (p := ⟨gb206, 3, none⟩) (Kd.R_far (p := ⟨gb206, 2, none⟩) (Kd.R_far (p := ⟨gb206, 1, none⟩) (Kd.R_far (p := ⟨gb206, 0, none⟩) (Kd.R_types HO196.out BK206.out (by decide)) (fun _ hk => hk.2) (.int .u8 t199)) (fun _ hk => hk.2) (.bool t200)) (fun _ hk => hk.2) (.bool t201)) (fun _ hk => hk.2) (.slice Ao47 t202.length co47)) (fun _ hk => ⟨hk.1.1.1.2, ⟨hk.1.1.2, hk.1.2⟩⟩)⟩, ⟨by (with_reducible repeat (first | apply Kd.R_alloc | apply Kd.R_drewN | apply Kd.R_drew)); exact Kd.R_mono (Kd.R_far (p := ⟨gb206, 3, none⟩) (Kd.R_far (p := ⟨gb206, 2, none⟩) (Kd.R_far (p := ⟨gb206, 1, none⟩) (Kd.R_far (p := ⟨gb206, 0, none⟩) (Kd.R_types HO204.out BK206.out (by decide)) (fun _ hk => hk.2) (.int .u8 t199)) (fun _ hk => hk.2) (.bool t200)) (fun _ hk => hk.2) (.bool t201)) (fun _ hk => hk.2) (.slice Ao47 t202.length co47)) (fun _ hk => ⟨hk.1.1.1.2, ⟨hk.1.1.2, hk.1.2⟩⟩)⟩, ⟨by (with_reducible repeat (first | refine blk_drewN ?_ _ | refine blk_drew ?_ | refine blk_alloc ?_ _)); refine blk_far ?_ NB190_206.out _; (with_reducible repeat (first | refine blk_drewN ?_ _ | refine blk_drew ?_ | refine blk_alloc ?_ _)); refine blk_far ?_ NB190_206.out _; (with_reducible repeat (first | refine blk_drewN ?_ _ | refine blk_drew ?_ | refine blk_alloc ?_ _)); refine blk_far ?_ NB190_206.out _; (with_reducible repeat (first | refine blk_drewN ?_ _ | refine blk_drew ?_ | refine blk_alloc ?_ _)); refine blk_far ?_ NB190_206.out _; (with_reducible repeat (first | refine blk_drewN ?_ _ | refine blk_drew ?_ | refine blk_alloc ?_ _)); exact BK190.out⟩, ⟨by (with_reducible repeat (first | refine blk_drewN ?_ _ | refine blk_drew ?_ | refine blk_alloc ?_ _)); refine blk_far ?_ NB198_206.out _; (with_reducible repeat (first | refine blk_drewN ?_ _ | refine blk_drew ?_ | refine blk_alloc ?_ _)); refine blk_far ?_ NB198_206.out _; (with_reducible repeat (first | refine blk_drewN ?_ _ | refine blk_drew ?_ | refine blk_alloc ?_ _)); refine blk_far ?_ NB198_206.out _; (with_reducible repeat (first | refine blk_drewN ?_ _ | refine blk_drew ?_ | refine blk_alloc ?_ _)); refine blk_far ?_ NB198_206.out _; (with_reducible repeat (first | refine blk_drewN ?_ _ | refine blk_drew ?_ | refine blk_alloc ?_ _)); exact BK198.out⟩, ⟨by (with_reducible repeat (first | refine blk_drewN ?_ _ | refine blk_drew ?_ | refine blk_alloc ?_ _)); refine blk_put (cs := #[.int .u8 t199, .bool t200, .bool t201, .slice none 0 0]) ?_ 3 _ rfl; (with_reducible repeat (first | refine blk_drewN ?_ _ | refine blk_drew ?_ | refine blk_alloc ?_ _)); refine blk_put (cs := #[.int .u8 t199, .bool t200, .bool false, .slice none 0 0]) ?_ 2 _ rfl; (with_reducible repeat (first | refine blk_drewN ?_ _ | refine blk_drew ?_ | refine blk_alloc ?_ _)); refine blk_put (cs := #[.int .u8 t199, .bool false, .bool false, .slice none 0 0]) ?_ 1 _ rfl; (with_reducible repeat (first | refine blk_drewN ?_ _ | refine blk_drew ?_ | refine blk_alloc ?_ _)); refine blk_put (cs := #[.int .u8 0, .bool false, .bool false, .slice none 0 0]) ?_ 0 _ rfl; (with_reducible repeat (first | refine blk_drewN ?_ _ | refine blk_drew ?_ | refine blk_alloc ?_ _)); exact BK206.out⟩, ⟨by repeat (first | (with_reducible first | exact HB.out | apply below_alloc | apply pw_below_drewN | apply below_drew1 | refine below_set ?_ GE190.out | refine below_set ?_ GE198.out | refine below_set ?_ GE206.out) | exact HB.out)⟩⟩
                              · rw [if_neg c56] at H
                                exact absurd H (by simp)
                            · rw [if_neg c55] at H
                              have c55b0 : ((rd x13_16 0) == 254) = false := beq_eq_false_iff_ne.mpr c55
                              have c55b1 : ((rd x13_16 0) != 254) = true := bne_iff_ne.mpr c55
                              have H' := Aside0.mk H
                              clear H
                              have p207 : 0 ≤ (0 : Int) := (by omega)
                              have q207 : 0 < (x13_16.length : Int) := of_decide_eq_true (by first | (with_reducible assumption) | assumption)
                              obtain ⟨ad207, e207, hx207_0⟩ := Kd.at_int (Kd.R_reads' HO_13.out).2.2 0 p207 q207
                              cases e207
                              have qi207 : (0 < x13_16.length) = True := eq_true (by omega)
                              (try rw [show ((0 : Int)).toNat = 0 from rfl] at hx207_0)
                              (try rw [Addr.add_zero'] at hx207_0)
                              have hn207_0 : ad207.block ≠ gb206 := Kd.own_blk (Kd.R_ne HO_13.out BK206.out (by decide))
                              have hn207_1 : ad207.block ≠ gb206 := Kd.own_blk (Kd.R_ne HO_13.out BK206.out (by decide))
                              have hn207_2 : ad207.block ≠ gb206 := Kd.own_blk (Kd.R_ne HO_13.out BK206.out (by decide))
                              have hn207_3 : ad207.block ≠ gb206 := Kd.own_blk (Kd.R_ne HO_13.out BK206.out (by decide))
                              replace hx207_0 := (cell_far (p := ⟨gb206, 0, none⟩) (by first | (rw [add_block]; exact hn207_0) | (show (Addr.add _ _).block ≠ _; rw [add_block]; exact hn207_0) | exact hn207_0) (.int .u8 t199)).trans hx207_0
                              replace hx207_0 := (cell_far (p := ⟨gb206, 1, none⟩) (by first | (rw [add_block]; exact hn207_1) | (show (Addr.add _ _).block ≠ _; rw [add_block]; exact hn207_1) | exact hn207_1) (.bool t200)).trans hx207_0
                              replace hx207_0 := (cell_far (p := ⟨gb206, 2, none⟩) (by first | (rw [add_block]; exact hn207_2) | (show (Addr.add _ _).block ≠ _; rw [add_block]; exact hn207_2) | exact hn207_2) (.bool t201)).trans hx207_0
                              replace hx207_0 := (cell_far (p := ⟨gb206, 3, none⟩) (by first | (rw [add_block]; exact hn207_3) | (show (Addr.add _ _).block ≠ _; rw [add_block]; exact hn207_3) | exact hn207_3) (.slice Ao47 t202.length co47)).trans hx207_0
                              clear hn207_0
                              clear hn207_1
                              clear hn207_2
                              clear hn207_3
                              replace p207 := eq_true p207
                              replace q207 := eq_true q207
                              have p211 : 0 ≤ (0 : Int) := (by omega)
                              have q211 : 0 < (x13_16.length : Int) := of_decide_eq_true (by first | (with_reducible assumption) | assumption)
                              obtain ⟨ad211, e211, hx211_0⟩ := Kd.at_int (Kd.R_reads' HO_13.out).2.2 0 p211 q211
                              obtain rfl : ad207 = ad211 := (by injection e211)
                              have qi211 : (0 < x13_16.length) = True := eq_true (by omega)
                              (try rw [show ((0 : Int)).toNat = 0 from rfl] at hx211_0)
                              (try rw [Addr.add_zero'] at hx211_0)
                              have hn211_0 : ad207.block ≠ gb206 := Kd.own_blk (Kd.R_ne HO_13.out BK206.out (by decide))
                              have hn211_1 : ad207.block ≠ gb206 := Kd.own_blk (Kd.R_ne HO_13.out BK206.out (by decide))
                              have hn211_2 : ad207.block ≠ gb206 := Kd.own_blk (Kd.R_ne HO_13.out BK206.out (by decide))
                              have hn211_3 : ad207.block ≠ gb206 := Kd.own_blk (Kd.R_ne HO_13.out BK206.out (by decide))
                              replace hx211_0 := (cell_far (p := ⟨gb206, 0, none⟩) (by first | (rw [add_block]; exact hn211_0) | (show (Addr.add _ _).block ≠ _; rw [add_block]; exact hn211_0) | exact hn211_0) (.int .u8 t199)).trans hx211_0
                              replace hx211_0 := (cell_far (p := ⟨gb206, 1, none⟩) (by first | (rw [add_block]; exact hn211_1) | (show (Addr.add _ _).block ≠ _; rw [add_block]; exact hn211_1) | exact hn211_1) (.bool t200)).trans hx211_0
                              replace hx211_0 := (cell_far (p := ⟨gb206, 2, none⟩) (by first | (rw [add_block]; exact hn211_2) | (show (Addr.add _ _).block ≠ _; rw [add_block]; exact hn211_2) | exact hn211_2) (.bool t201)).trans hx211_0
                              replace hx211_0 := (cell_far (p := ⟨gb206, 3, none⟩) (by first | (rw [add_block]; exact hn211_3) | (show (Addr.add _ _).block ≠ _; rw [add_block]; exact hn211_3) | exact hn211_3) (.slice Ao47 t202.length co47)).trans hx211_0
                              clear hn211_0
                              clear hn211_1
                              clear hn211_2
                              clear hn211_3
                              replace p211 := eq_true p211
                              replace q211 := eq_true q211
                              go_wp2
                              go_meet
                              case rel => exact ⟨_, (false), (by first | rfl | (simp; done) | (simp [*]; done)), H', ⟨by have := HJ3.out; have := HK2.out; have := HJ16.out; first | omega | exact Nat.le_refl _⟩, ⟨by (with_reducible repeat (first | apply Kd.R_alloc | apply Kd.R_drewN | apply Kd.R_drew)); exact Kd.R_mono (Kd.R_far (p := ⟨gb206, 3, none⟩) (Kd.R_far (p := ⟨gb206, 2, none⟩) (Kd.R_far (p := ⟨gb206, 1, none⟩) (Kd.R_far (p := ⟨gb206, 0, none⟩) (Kd.R_types HO_7.out BK206.out (by decide)) (fun _ hk => hk.2) (.int .u8 t199)) (fun _ hk => hk.2) (.bool t200)) (fun _ hk => hk.2) (.bool t201)) (fun _ hk => hk.2) (.slice Ao47 t202.length co47)) (fun _ hk => ⟨hk.1.1.1.2, ⟨hk.1.1.2, hk.1.2⟩⟩)⟩, ⟨by (with_reducible repeat (first | apply Kd.R_alloc | apply Kd.R_drewN | apply Kd.R_drew)); exact Kd.R_mono (Kd.R_far (p := ⟨gb206, 3, none⟩) (Kd.R_far (p := ⟨gb206, 2, none⟩) (Kd.R_far (p := ⟨gb206, 1, none⟩) (Kd.R_far (p := ⟨gb206, 0, none⟩) (Kd.R_types HO_9.out BK206.out (by decide)) (fun _ hk => hk.2) (.int .u8 t199)) (fun _ hk => hk.2) (.bool t200)) (fun _ hk => hk.2) (.bool t201)) (fun _ hk => hk.2) (.slice Ao47 t202.length co47)) (fun _ hk => trivial)⟩, ⟨by (with_reducible repeat (first | apply Kd.R_alloc | apply Kd.R_drewN | apply Kd.R_drew)); exact Kd.R_mono (Kd.R_far (p := ⟨gb206, 3, none⟩) (Kd.R_far (p := ⟨gb206, 2, none⟩) (Kd.R_far (p := ⟨gb206, 1, none⟩) (Kd.R_far (p := ⟨gb206, 0, none⟩) (Kd.R_types HO188.out BK206.out (by decide)) (fun _ hk => hk.2) (.int .u8 t199)) (fun _ hk => hk.2) (.bool t200)) (fun _ hk => hk.2) (.bool t201)) (fun _ hk => hk.2) (.slice Ao47 t202.length co47)) (fun _ hk => ⟨hk.1.1.1.2, ⟨hk.1.1.2, hk.1.2⟩⟩)⟩, ⟨by (with_reducible repeat (first | apply Kd.R_alloc | apply Kd.R_drewN | apply Kd.R_drew)); exact Kd.R_mono (Kd.R_far (p := ⟨gb206, 3, none⟩) (Kd.R_far (p := ⟨gb206, 2, none⟩) (Kd.R_far (p := ⟨gb206, 1, none⟩) (Kd.R_far (p := ⟨gb206, 0, none⟩) (Kd.R_types HO196.out BK206.out (by decide)) (fun _ hk => hk.2) (.int .u8 t199)) (fun _ hk => hk.2) (.bool t200)) (fun _ hk => hk.2) (.bool t201)) (fun _ hk => hk.2) (.slice Ao47 t202.length co47)) (fun _ hk => ⟨hk.1.1.1.2, ⟨hk.1.1.2, hk.1.2⟩⟩)⟩, ⟨by (with_reducible repeat (first | apply Kd.R_alloc | apply Kd.R_drewN | apply Kd.R_drew)); exact Kd.R_mono (Kd.R_far (p := ⟨gb206, 3, none⟩) (Kd.R_far (p := ⟨gb206, 2, none⟩) (Kd.R_far (p := ⟨gb206, 1, none⟩) (Kd.R_far (p := ⟨gb206, 0, none⟩) (Kd.R_types HO204.out BK206.out (by decide)) (fun _ hk => hk.2) (.int .u8 t199)) (fun _ hk => hk.2) (.bool t200)) (fun _ hk => hk.2) (.bool t201)) (fun _ hk => hk.2) (.slice Ao47 t202.length co47)) (fun _ hk => ⟨hk.1.1.1.2, ⟨hk.1.1.2, hk.1.2⟩⟩)⟩, ⟨by (with_reducible repeat (first | refine blk_drewN ?_ _ | refine blk_drew ?_ | refine blk_alloc ?_ _)); refine blk_far ?_ NB190_206.out _; (with_reducible repeat (first | refine blk_drewN ?_ _ | refine blk_drew ?_ | refine blk_alloc ?_ _)); refine blk_far ?_ NB190_206.out _; (with_reducible repeat (first | refine blk_drewN ?_ _ | refine blk_drew ?_ | refine blk_alloc ?_ _)); refine blk_far ?_ NB190_206.out _; (with_reducible repeat (first | refine blk_drewN ?_ _ | refine blk_drew ?_ | refine blk_alloc ?_ _)); refine blk_far ?_ NB190_206.out _; (with_reducible repeat (first | refine blk_drewN ?_ _ | refine blk_drew ?_ | refine blk_alloc ?_ _)); exact BK190.out⟩, ⟨by (with_reducible repeat (first | refine blk_drewN ?_ _ | refine blk_drew ?_ | refine blk_alloc ?_ _)); refine blk_far ?_ NB198_206.out _; (with_reducible repeat (first | refine blk_drewN ?_ _ | refine blk_drew ?_ | refine blk_alloc ?_ _)); refine blk_far ?_ NB198_206.out _; (with_reducible repeat (first | refine blk_drewN ?_ _ | refine blk_drew ?_ | refine blk_alloc ?_ _)); refine blk_far ?_ NB198_206.out _; (with_reducible repeat (first | refine blk_drewN ?_ _ | refine blk_drew ?_ | refine blk_alloc ?_ _)); refine blk_far ?_ NB198_206.out _; (with_reducible repeat (first | refine blk_drewN ?_ _ | refine blk_drew ?_ | refine blk_alloc ?_ _)); exact BK198.out⟩, ⟨by (with_reducible repeat (first | refine blk_drewN ?_ _ | refine blk_drew ?_ | refine blk_alloc ?_ _)); refine blk_put (cs := #[.int .u8 t199, .bool t200, .bool t201, .slice none 0 0]) ?_ 3 _ rfl; (with_reducible repeat (first | refine blk_drewN ?_ _ | refine blk_drew ?_ | refine blk_alloc ?_ _)); refine blk_put (cs := #[.int .u8 t199, .bool t200, .bool false, .slice none 0 0]) ?_ 2 _ rfl; (with_reducible repeat (first | refine blk_drewN ?_ _ | refine blk_drew ?_ | refine blk_alloc ?_ _)); refine blk_put (cs := #[.int .u8 t199, .bool false, .bool false, .slice none 0 0]) ?_ 1 _ rfl; (with_reducible repeat (first | refine blk_drewN ?_ _ | refine blk_drew ?_ | refine blk_alloc ?_ _)); refine blk_put (cs := #[.int .u8 0, .bool false, .bool false, .slice none 0 0]) ?_ 0 _ rfl; (with_reducible repeat (first | refine blk_drewN ?_ _ | refine blk_drew ?_ | refine blk_alloc ?_ _)); exact BK206.out⟩, ⟨by repeat (first | (with_reducible first | exact HB.out | apply below_alloc | apply pw_below_drewN | apply below_drew1 | refine below_set ?_ GE190.out | refine below_set ?_ GE198.out | refine below_set ?_ GE206.out) | exact HB.out)⟩⟩
                        · rw [if_neg c50] at H
                          exact absurd H (by simp)
                      · rw [if_neg c49] at H
                        have c49b0 : decide (2 ≤ (x13_16.length : Int)) = false := decide_eq_false c49
                        have c49b1 : decide (2 ≤ x13_16.length) = false := decide_eq_false (by omega)
                        clear c49
                        (first | rw [c49b0] | (simp only [i64_w, i32_w]; rw [c49b0]) | skip)
                        have H' := Aside0.mk H
                        clear H
                        go_wp2
                        go_meet
                        case rel => exact ⟨_, (false), (by first | rfl | (simp; done) | (simp [*]; done)), H', ⟨by have := HJ3.out; have := HK2.out; have := HJ16.out; first | omega | exact Nat.le_refl _⟩, ⟨by (with_reducible repeat (first | apply Kd.R_alloc | apply Kd.R_drewN | apply Kd.R_drew)); exact Kd.R_mono (Kd.R_far (p := ⟨gb206, 3, none⟩) (Kd.R_far (p := ⟨gb206, 2, none⟩) (Kd.R_far (p := ⟨gb206, 1, none⟩) (Kd.R_far (p := ⟨gb206, 0, none⟩) (Kd.R_types HO_7.out BK206.out (by decide)) (fun _ hk => hk.2) (.int .u8 t199)) (fun _ hk => hk.2) (.bool t200)) (fun _ hk => hk.2) (.bool t201)) (fun _ hk => hk.2) (.slice Ao47 t202.length co47)) (fun _ hk => ⟨hk.1.1.1.2, ⟨hk.1.1.2, hk.1.2⟩⟩)⟩, ⟨by (with_reducible repeat (first | apply Kd.R_alloc | apply Kd.R_drewN | apply Kd.R_drew)); exact Kd.R_mono (Kd.R_far (p := ⟨gb206, 3, none⟩) (Kd.R_far (p := ⟨gb206, 2, none⟩) (Kd.R_far (p := ⟨gb206, 1, none⟩) (Kd.R_far (p := ⟨gb206, 0, none⟩) (Kd.R_types HO_9.out BK206.out (by decide)) (fun _ hk => hk.2) (.int .u8 t199)) (fun _ hk => hk.2) (.bool t200)) (fun _ hk => hk.2) (.bool t201)) (fun _ hk => hk.2) (.slice Ao47 t202.length co47)) (fun _ hk => trivial)⟩, ⟨by (with_reducible repeat (first | apply Kd.R_alloc | apply Kd.R_drewN | apply Kd.R_drew)); exact Kd.R_mono (Kd.R_far (p := ⟨gb206, 3, none⟩) (Kd.R_far (p := ⟨gb206, 2, none⟩) (Kd.R_far (p := ⟨gb206, 1, none⟩) (Kd.R_far (p := ⟨gb206, 0, none⟩) (Kd.R_types HO188.out BK206.out (by decide)) (fun _ hk => hk.2) (.int .u8 t199)) (fun _ hk => hk.2) (.bool t200)) (fun _ hk => hk.2) (.bool t201)) (fun _ hk => hk.2) (.slice Ao47 t202.length co47)) (fun _ hk => ⟨hk.1.1.1.2, ⟨hk.1.1.2, hk.1.2⟩⟩)⟩, ⟨by (with_reducible repeat (first | apply Kd.R_alloc | apply Kd.R_drewN | apply Kd.R_drew)); exact Kd.R_mono (Kd.R_far (p := ⟨gb206, 3, none⟩) (Kd.R_far (p := ⟨gb206, 2, none⟩) (Kd.R_far (p := ⟨gb206, 1, none⟩) (Kd.R_far (p := ⟨gb206, 0, none⟩) (Kd.R_types HO196.out BK206.out (by decide)) (fun _ hk => hk.2) (.int .u8 t199)) (fun _ hk => hk.2) (.bool t200)) (fun _ hk => hk.2) (.bool t201)) (fun _ hk => hk.2) (.slice Ao47 t202.length co47)) (fun _ hk => ⟨hk.1.1.1.2, ⟨hk.1.1.2, hk.1.2⟩⟩)⟩, ⟨by (with_reducible repeat (first | apply Kd.R_alloc | apply Kd.R_drewN | apply Kd.R_drew)); exact Kd.R_mono (Kd.R_far (p := ⟨gb206, 3, none⟩) (Kd.R_far (p := ⟨gb206, 2, none⟩) (Kd.R_far (p := ⟨gb206, 1, none⟩) (Kd.R_far (p := ⟨gb206, 0, none⟩) (Kd.R_types HO204.out BK206.out (by decide)) (fun _ hk => hk.2) (.int .u8 t199)) (fun _ hk => hk.2) (.bool t200)) (fun _ hk => hk.2) (.bool t201)) (fun _ hk => hk.2) (.slice Ao47 t202.length co47)) (fun _ hk => ⟨hk.1.1.1.2, ⟨hk.1.1.2, hk.1.2⟩⟩)⟩, ⟨by (with_reducible repeat (first | refine blk_drewN ?_ _ | refine blk_drew ?_ | refine blk_alloc ?_ _)); refine blk_far ?_ NB190_206.out _; (with_reducible repeat (first | refine blk_drewN ?_ _ | refine blk_drew ?_ | refine blk_alloc ?_ _)); refine blk_far ?_ NB190_206.out _; (with_reducible repeat (first | refine blk_drewN ?_ _ | refine blk_drew ?_ | refine blk_alloc ?_ _)); refine blk_far ?_ NB190_206.out _; (with_reducible repeat (first | refine blk_drewN ?_ _ | refine blk_drew ?_ | refine blk_alloc ?_ _)); refine blk_far ?_ NB190_206.out _; (with_reducible repeat (first | refine blk_drewN ?_ _ | refine blk_drew ?_ | refine blk_alloc ?_ _)); exact BK190.out⟩, ⟨by (with_reducible repeat (first | refine blk_drewN ?_ _ | refine blk_drew ?_ | refine blk_alloc ?_ _)); refine blk_far ?_ NB198_206.out _; (with_reducible repeat (first | refine blk_drewN ?_ _ | refine blk_drew ?_ | refine blk_alloc ?_ _)); refine blk_far ?_ NB198_206.out _; (with_reducible repeat (first | refine blk_drewN ?_ _ | refine blk_drew ?_ | refine blk_alloc ?_ _)); refine blk_far ?_ NB198_206.out _; (with_reducible repeat (first | refine blk_drewN ?_ _ | refine blk_drew ?_ | refine blk_alloc ?_ _)); refine blk_far ?_ NB198_206.out _; (with_reducible repeat (first | refine blk_drewN ?_ _ | refine blk_drew ?_ | refine blk_alloc ?_ _)); exact BK198.out⟩, ⟨by (with_reducible repeat (first | refine blk_drewN ?_ _ | refine blk_drew ?_ | refine blk_alloc ?_ _)); refine blk_put (cs := #[.int .u8 t199, .bool t200, .bool t201, .slice none 0 0]) ?_ 3 _ rfl; (with_reducible repeat (first | refine blk_drewN ?_ _ | refine blk_drew ?_ | refine blk_alloc ?_ _)); refine blk_put (cs := #[.int .u8 t199, .bool t200, .bool false, .slice none 0 0]) ?_ 2 _ rfl; (with_reducible repeat (first | refine blk_drewN ?_ _ | refine blk_drew ?_ | refine blk_alloc ?_ _)); refine blk_put (cs := #[.int .u8 t199, .bool false, .bool false, .slice none 0 0]) ?_ 1 _ rfl; (with_reducible repeat (first | refine blk_drewN ?_ _ | refine blk_drew ?_ | refine blk_alloc ?_ _)); refine blk_put (cs := #[.int .u8 0, .bool false, .bool false, .slice none 0 0]) ?_ 0 _ rfl; (with_reducible repeat (first | refine blk_drewN ?_ _ | refine blk_drew ?_ | refine blk_alloc ?_ _)); exact BK206.out⟩, ⟨by repeat (first | (with_reducible first | exact HB.out | apply below_alloc | apply pw_below_drewN | apply below_drew1 | refine below_set ?_ GE190.out | refine below_set ?_ GE198.out | refine below_set ?_ GE206.out) | exact HB.out)⟩⟩
                  case rest =>
                    clear HC29
                    try clear c1
                    try clear p1
                    try clear q1
                    try clear hx1
                    try clear c2
                    try clear p2
                    try clear q2
                    try clear hx2
                    try clear qi2
                    try clear c3
                    try clear p3
                    try clear c4
                    try clear c5
                    try clear c5b0
                    try clear c5b1
                    try clear p6
                    try clear c8
                    try clear c9
                    try clear c11
                    try clear c11b0
                    try clear c12
                    try clear c12b0
                    try clear c13
                    try clear p16
                    try clear q16
                    try clear hx16
                    try clear p20
                    try clear q20
                    try clear hx20
                    try clear qi20
                    try clear c21
                    try clear p21
                    try clear q21
                    try clear hx21
                    try clear qi21
                    try clear p32
                    try clear c38
                    try clear c44
                    try clear c45
                    try clear c48
                    try clear c49
                    try clear c49b0
                    try clear c49b1
                    try clear c50
                    try clear c50b0
                    try clear c50b1
                    try clear c51
                    try clear c51b0
                    try clear c51b1
                    try clear c52
                    try clear c52b0
                    try clear c52b1
                    try clear c53
                    try clear c53b0
                    try clear c53b1
                    try clear c54
                    try clear c54b0
                    try clear c54b1
                    try clear c55
                    try clear c55b0
                    try clear c55b1
                    try clear c56
                    try clear c56b0
                    try clear c56b1
                    try clear hcz33_0
                    try clear hcz33_1
                    try clear hcz33_2
                    try clear hcz33_3
                    try clear hcz39_0
                    try clear hcz39_1
                    try clear hcz39_2
                    try clear hcz39_3
                    try clear hcz46_0
                    try clear hcz46_1
                    try clear hcz46_2
                    try clear hcz46_3
                    try clear hfz33_0
                    try clear hfz33_1
                    try clear hfz33_2
                    try clear hfz33_3
                    try clear hfz39_0
                    try clear hfz39_1
                    try clear hfz39_2
                    try clear hfz39_3
                    try clear hfz46_0
                    try clear hfz46_1
                    try clear hfz46_2
                    try clear hfz46_3
                    try clear hx163_0
                    try clear hx207_0
                    try clear hx208_0
                    try clear hx209_0
                    try clear hx210_0
                    try clear hx211_0
                    try clear hx212_0
                    try clear p1
                    try clear p16
                    try clear p163
                    try clear p2
                    try clear p207
                    try clear p208
                    try clear p209
                    try clear p210
                    try clear p211
                    try clear p212
                    try clear p3
                    try clear p6
                    try clear q1
                    try clear q16
                    try clear q163
                    try clear q207
                    try clear q208
                    try clear q209
                    try clear q210
                    try clear q211
                    try clear q212
                    obtain ⟨kq, x112_28, rfl, HA, HJ28, HO_7, HO_9, HO_191003, HO_199003, HO_207003, BK190, BK198, BK206, HB⟩ := hcut
                    cases kq with
                    | zero => exact absurd HA.out (by simp [redactorlaw04_CodecAlike.j3])
                    | succ kj28 =>
                      have H := HA.out
                      clear HA
                      simp only [redactorlaw04_CodecAlike.j3] at H
                      by_cases c57 : x112_28 = true
                      · subst c57
                        have H1 : (if t170 = 0 then (if t174 = 0 then (some (x14_16 == 0)) else (some false)) else (some false)) = some r := by rw [if_pos rfl] at H; exact H
                        clear H
                        have H := H1
                        clear H1
                        by_cases c58 : t170 = 0
                        · rw [if_pos c58] at H
                          have c58b0 : (t170 == 0) = true := beq_iff_eq.mpr c58
                          have c58b1 : (t170 != 0) = false := bne_eq_false_iff_eq.mpr c58
                          clear c58
                          by_cases c59 : t174 = 0
                          · rw [if_pos c59] at H
                            have c59b0 : (t174 == 0) = true := beq_iff_eq.mpr c59
                            have c59b1 : (t174 != 0) = false := bne_eq_false_iff_eq.mpr c59
                            clear c59
                            obtain rfl := Option.some.inj H
                            go_wp2
                            all_goals go_ret
                            all_goals exact ⟨by first | rfl | (simp [errW_none, errW_some] <;> rfl) | (simp [*, errW_none, errW_some] <;> rfl), by repeat (first | (with_reducible first | exact HB.out | apply below_alloc | apply pw_below_drewN | apply below_drew1 | refine below_set ?_ GE190.out | refine below_set ?_ GE198.out | refine below_set ?_ GE206.out) | exact HB.out)⟩
                          · rw [if_neg c59] at H
                            have c59b0 : (t174 == 0) = false := beq_eq_false_iff_ne.mpr c59
                            have c59b1 : (t174 != 0) = true := bne_iff_ne.mpr c59
                            exact absurd (Option.some.inj H) (by rw [hrt.out]; decide)
                        · rw [if_neg c58] at H
                          have c58b0 : (t170 == 0) = false := beq_eq_false_iff_ne.mpr c58
                          have c58b1 : (t170 != 0) = true := bne_iff_ne.mpr c58
                          exact absurd (Option.some.inj H) (by rw [hrt.out]; decide)
                      · replace c57 := Bool.eq_false_iff.mpr c57
                        subst c57
                        have H1 : (if t170 = 0 then (if t174 = 0 then (if x14_16 = 0 then ((redactorref01_Same.f kj28 t186 x7_2).bind fun t213 => (if t213 = true then ((redactorref01_Same.f kj28 t194 x7_2).bind fun t214 => (if t214 = true then ((redactorref01_Same.f kj28 t202 x7_2).bind fun t215 => (if t215 = true then (some ((strOfNums t167).toList == (strOfNums l0).toList)) else (some false))) else (some false))) else (some false))) else (some false)) else (some false)) else (some false)) = some r := by rw [if_neg (show ¬ (false = true) by decide)] at H; exact H
                        clear H
                        have H := H1
                        clear H1
                        by_cases c60 : t170 = 0
                        · rw [if_pos c60] at H
                          have c60b0 : (t170 == 0) = true := beq_iff_eq.mpr c60
                          have c60b1 : (t170 != 0) = false := bne_eq_false_iff_eq.mpr c60
                          clear c60
                          by_cases c61 : t174 = 0
                          · rw [if_pos c61] at H
                            have c61b0 : (t174 == 0) = true := beq_iff_eq.mpr c61
                            have c61b1 : (t174 != 0) = false := bne_eq_false_iff_eq.mpr c61
                            clear c61
                            by_cases c62 : x14_16 = 0
                            · rw [if_pos c62] at H
                              have c62b0 : (x14_16 == 0) = true := beq_iff_eq.mpr c62
                              have c62b1 : (x14_16 != 0) = false := bne_eq_false_iff_eq.mpr c62
                              clear c62
                              replace H := Option.bind_eq_some_iff.mp H
                              obtain ⟨t213, A630, H⟩ := H
                              replace H : (if t213 = true then ((redactorref01_Same.f kj28 t194 x7_2).bind fun t214 => (if t214 = true then ((redactorref01_Same.f kj28 t202 x7_2).bind fun t215 => (if t215 = true then (some ((strOfNums t167).toList == (strOfNums l0).toList)) else (some false))) else (some false))) else (some false)) = some r := H
                              have A63 := Aside0.mk A630
                              clear A630
                              by_cases c64 : t213 = true
                              · subst c64
                                have H1 : ((redactorref01_Same.f kj28 t194 x7_2).bind fun t214 => (if t214 = true then ((redactorref01_Same.f kj28 t202 x7_2).bind fun t215 => (if t215 = true then (some ((strOfNums t167).toList == (strOfNums l0).toList)) else (some false))) else (some false))) = some r := by rw [if_pos rfl] at H; exact H
                                clear H
                                have H := H1
                                clear H1
                                replace H := Option.bind_eq_some_iff.mp H
                                obtain ⟨t214, A650, H⟩ := H
                                replace H : (if t214 = true then ((redactorref01_Same.f kj28 t202 x7_2).bind fun t215 => (if t215 = true then (some ((strOfNums t167).toList == (strOfNums l0).toList)) else (some false))) else (some false)) = some r := H
                                have A65 := Aside0.mk A650
                                clear A650
                                by_cases c66 : t214 = true
                                · subst c66
                                  have H1 : ((redactorref01_Same.f kj28 t202 x7_2).bind fun t215 => (if t215 = true then (some ((strOfNums t167).toList == (strOfNums l0).toList)) else (some false))) = some r := by rw [if_pos rfl] at H; exact H
                                  clear H
                                  have H := H1
                                  clear H1
                                  replace H := Option.bind_eq_some_iff.mp H
                                  obtain ⟨t215, A670, H⟩ := H
                                  replace H : (if t215 = true then (some ((strOfNums t167).toList == (strOfNums l0).toList)) else (some false)) = some r := H
                                  have A67 := Aside0.mk A670
                                  clear A670
                                  by_cases c68 : t215 = true
                                  · subst c68
                                    have H1 : (some ((strOfNums t167).toList == (strOfNums l0).toList)) = some r := by rw [if_pos rfl] at H; exact H
                                    clear H
                                    have H := H1
                                    clear H1
                                    obtain rfl := Option.some.inj H
                                    have hnb69 := NB190_198.out
                                    have hnc69 := NB198_190.out
                                    have hnb70 := NB190_206.out
                                    have hnc70 := NB206_190.out
                                    have hcz71_0 : wc.cell? ⟨gb190, 0, none⟩ = some (.int .u8 t183) := (blk_cell BK190.out 0).trans rfl
                                    have hcz71_1 : wc.cell? ⟨gb190, 1, none⟩ = some (.bool t184) := (blk_cell BK190.out 1).trans rfl
                                    have hcz71_2 : wc.cell? ⟨gb190, 2, none⟩ = some (.bool t185) := (blk_cell BK190.out 2).trans rfl
                                    have hcz71_3 : wc.cell? ⟨gb190, 3, none⟩ = some (.slice Ao34 t186.length co34) := (blk_cell BK190.out 3).trans rfl
                                    have hfz71_0 := blk_frozen BK190.out 0
                                    have hfz71_1 := blk_frozen BK190.out 1
                                    have hfz71_2 := blk_frozen BK190.out 2
                                    have hfz71_3 := blk_frozen BK190.out 3; have cvA := fun (n : Nat) => own_string (P := Tryd.prog) Tryd.underlying22 Tryd.underlying5 Tryd.underlying9 (Kd.own_of_R (Kd.R_drewN HO_9.out n)); have cvB := fun (n : Nat) => Kd.C_string (P := Tryd.prog) (A := A0) (c := c0) Tryd.underlying22 Tryd.underlying5 Tryd.underlying9 (Kd.C_drewN (Kd.C_below HR0.out HB.out) n)
                                    go_wp2_with (first | (go_at_call 14; (with_reducible refine (redactorref01_Same.calls kj28 _ _ t186 _ _ x7_2 true _ ?side1 ?side2 ?side3 ?side4 A63.out).mono ?_); (case side1 => repeat (first | exact (Kd.R_reads' HO_191003.out).2.2 | (with_reducible refine Kd.C_alloc ?_ _) | (with_reducible refine Kd.C_drewN ?_ _) | (with_reducible refine Kd.C_drew ?_))); (case side2 => exact (Kd.R_reads' HO_191003.out).2.1); (case side3 => repeat (first | exact (Kd.R_reads' HO_7.out).2.2 | (with_reducible refine Kd.C_alloc ?_ _) | (with_reducible refine Kd.C_drewN ?_ _) | (with_reducible refine Kd.C_drew ?_))); (case side4 => exact (Kd.R_reads' HO_7.out).2.1); rintro e w' ⟨rfl, ⟨nd, rfl⟩⟩; (try clear A63); have hnb72 := NB198_206.out; have hnc72 := NB206_198.out; have hcz73_0 : wc.cell? ⟨gb198, 0, none⟩ = some (.int .u8 t191) := (blk_cell BK198.out 0).trans rfl; have hcz73_1 : wc.cell? ⟨gb198, 1, none⟩ = some (.bool t192) := (blk_cell BK198.out 1).trans rfl; have hcz73_2 : wc.cell? ⟨gb198, 2, none⟩ = some (.bool t193) := (blk_cell BK198.out 2).trans rfl; have hcz73_3 : wc.cell? ⟨gb198, 3, none⟩ = some (.slice Ao40 t194.length co40) := (blk_cell BK198.out 3).trans rfl; have hfz73_0 := blk_frozen BK198.out 0; have hfz73_1 := blk_frozen BK198.out 1; have hfz73_2 := blk_frozen BK198.out 2; have hfz73_3 := blk_frozen BK198.out 3) | (go_at_call 14; (with_reducible refine (redactorref01_Same.calls kj28 _ _ t194 _ _ x7_2 true _ ?side1 ?side2 ?side3 ?side4 A65.out).mono ?_); (case side1 => repeat (first | exact (Kd.R_reads' HO_199003.out).2.2 | (with_reducible refine Kd.C_alloc ?_ _) | (with_reducible refine Kd.C_drewN ?_ _) | (with_reducible refine Kd.C_drew ?_))); (case side2 => exact (Kd.R_reads' HO_199003.out).2.1); (case side3 => repeat (first | exact (Kd.R_reads' HO_7.out).2.2 | (with_reducible refine Kd.C_alloc ?_ _) | (with_reducible refine Kd.C_drewN ?_ _) | (with_reducible refine Kd.C_drew ?_))); (case side4 => exact (Kd.R_reads' HO_7.out).2.1); rintro e w' ⟨rfl, ⟨nd, rfl⟩⟩; (try clear A65); have hcz74_0 : wc.cell? ⟨gb206, 0, none⟩ = some (.int .u8 t199) := (blk_cell BK206.out 0).trans rfl; have hcz74_1 : wc.cell? ⟨gb206, 1, none⟩ = some (.bool t200) := (blk_cell BK206.out 1).trans rfl; have hcz74_2 : wc.cell? ⟨gb206, 2, none⟩ = some (.bool t201) := (blk_cell BK206.out 2).trans rfl; have hcz74_3 : wc.cell? ⟨gb206, 3, none⟩ = some (.slice Ao47 t202.length co47) := (blk_cell BK206.out 3).trans rfl; have hfz74_0 := blk_frozen BK206.out 0; have hfz74_1 := blk_frozen BK206.out 1; have hfz74_2 := blk_frozen BK206.out 2; have hfz74_3 := blk_frozen BK206.out 3) | (go_at_call 14; (with_reducible refine (redactorref01_Same.calls kj28 _ _ t202 _ _ x7_2 true _ ?side1 ?side2 ?side3 ?side4 A67.out).mono ?_); (case side1 => repeat (first | exact (Kd.R_reads' HO_207003.out).2.2 | (with_reducible refine Kd.C_alloc ?_ _) | (with_reducible refine Kd.C_drewN ?_ _) | (with_reducible refine Kd.C_drew ?_))); (case side2 => exact (Kd.R_reads' HO_207003.out).2.1); (case side3 => repeat (first | exact (Kd.R_reads' HO_7.out).2.2 | (with_reducible refine Kd.C_alloc ?_ _) | (with_reducible refine Kd.C_drewN ?_ _) | (with_reducible refine Kd.C_drew ?_))); (case side4 => exact (Kd.R_reads' HO_7.out).2.1); rintro e w' ⟨rfl, ⟨nd, rfl⟩⟩; (try clear A67); have hcv75 := own_string (P := Tryd.prog) Tryd.underlying22 Tryd.underlying5 Tryd.underlying9 (Kd.own_of_R HO_9.out); have hcv76 := Kd.C_string (P := Tryd.prog) (A := A0) (c := c0) Tryd.underlying22 Tryd.underlying5 Tryd.underlying9 (Kd.C_below HR0.out HB.out)))
                                    all_goals go_ret
                                    all_goals exact ⟨by first | rfl | (simp [errW_none, errW_some] <;> rfl) | (simp [*, errW_none, errW_some] <;> rfl), by repeat (first | (with_reducible first | exact HB.out | apply below_alloc | apply pw_below_drewN | apply below_drew1 | refine below_set ?_ GE190.out | refine below_set ?_ GE198.out | refine below_set ?_ GE206.out) | exact HB.out)⟩
                                  · replace c68 := Bool.eq_false_iff.mpr c68
                                    subst c68
                                    have H1 : (some false) = some r := by rw [if_neg (show ¬ (false = true) by decide)] at H; exact H
                                    clear H
                                    have H := H1
                                    clear H1
                                    exact absurd (Option.some.inj H) (by rw [hrt.out]; decide)
                                · replace c66 := Bool.eq_false_iff.mpr c66
                                  subst c66
                                  have H1 : (some false) = some r := by rw [if_neg (show ¬ (false = true) by decide)] at H; exact H
                                  clear H
                                  have H := H1
                                  clear H1
                                  exact absurd (Option.some.inj H) (by rw [hrt.out]; decide)
                              · replace c64 := Bool.eq_false_iff.mpr c64
                                subst c64
                                have H1 : (some false) = some r := by rw [if_neg (show ¬ (false = true) by decide)] at H; exact H
                                clear H
                                have H := H1
                                clear H1
                                exact absurd (Option.some.inj H) (by rw [hrt.out]; decide)
                            · rw [if_neg c62] at H
                              have c62b0 : (x14_16 == 0) = false := beq_eq_false_iff_ne.mpr c62
                              have c62b1 : (x14_16 != 0) = true := bne_iff_ne.mpr c62
                              exact absurd (Option.some.inj H) (by rw [hrt.out]; decide)
                          · rw [if_neg c61] at H
                            have c61b0 : (t174 == 0) = false := beq_eq_false_iff_ne.mpr c61
                            have c61b1 : (t174 != 0) = true := bne_iff_ne.mpr c61
                            exact absurd (Option.some.inj H) (by rw [hrt.out]; decide)
                        · rw [if_neg c60] at H
                          have c60b0 : (t170 == 0) = false := beq_eq_false_iff_ne.mpr c60
                          have c60b1 : (t170 != 0) = true := bne_iff_ne.mpr c60
                          exact absurd (Option.some.inj H) (by rw [hrt.out]; decide)

/-- THE ONE PURE STATEMENT of redactorlaw04_CodecAlike: yours. -/
def redactorlaw04_CodecAlike.Pure : Prop := ∀ (l0 : List Int) (a1 : Bool) (a2 : Bool), l0.length ≤ maxLen → l0.length * 1 ≤ 140737488351232 → (∀ x ∈ l0, (Lit.int .u8 x).wf = true) → ∃ k, redactorlaw04_CodecAlike.f k l0 a1 a2 = some true
theorem redactorlaw04_CodecAlike.walk (P : redactorlaw04_CodecAlike.Pure) (a0 : Option Addr) (len0 cap0 : Nat) (z0 : List Int) (a1 : Bool) (a2 : Bool) (w : World) (w0 : (a0 = none ∧ len0 = 0 ∧ cap0 = 0 ∧ z0 = []) ∨ ∃ x, a0 = some x ∧ len0 ≤ cap0 ∧ cap0 ≤ maxLen ∧ z0.length = cap0 ∧ (∀ i, i < z0.length → w.cell? (x.add i) = some (.int .u8 (z0.getD i 0))) ∧ ∀ n ∈ z0, (Lit.int .u8 n).wf = true) (y0 : len0 * 1 ≤ 140737488351232) (hGL : (Lib.Utf8Tabs 0 1) w) :
    Calls Tryd.prog 5 #[.slice a0 len0 cap0, .bool a1, .bool a2] w fun e w' => e = .returned (.bool true) ∧ Below w.heap.size w w' := by
  obtain ⟨l0, rfl, hr0, hm0, hw0, hc0⟩ := ReadsInt.ofRowC w0
  obtain ⟨k, h⟩ := P l0 a1 a2 hm0 y0 hw0
  refine (redactorlaw04_CodecAlike.calls k _ _ l0 a1 a2 true w (Kd.C_of_reads (d := (0 : Int)) (h1 := fun _ => rfl) hr0) hc0 hGL ⟨rfl⟩ h).mono ?_
  rintro e w' ⟨rfl, hd⟩
  exact ⟨rfl, hd⟩

end Go.Proofs.YtcofbakhhcgbfaaDoor.PX
