/- Functions of the program told as plain functions, and that each call comes to what its function says. Conditions: each contract names its own. (Written by xprint.py, a program of this session, by way of the print of the kit; not trusted: Lean checks it.) -/
import Derived.Test.YtcofbakhhcgbfaaDoorPZ0
import Derived.Test.YtcofbakhhcgbfaaDoorPZ1
namespace Go.Proofs.YtcofbakhhcgbfaaDoor.PX
end Go.Proofs.YtcofbakhhcgbfaaDoor.PX
namespace Go.Proofs.YtcofbakhhcgbfaaDoor.KX
end Go.Proofs.YtcofbakhhcgbfaaDoor.KX
namespace Go.Proofs.YtcofbakhhcgbfaaDoor.PZ
open Go.RowKit Go.Proofs.YtcofbakhhcgbfaaDoor.PX Go.Proofs.YtcofbakhhcgbfaaDoor.KX Go.Proofs.YtcofbakhhcgbfaaDoorW.PrintWords Go.Proofs.YtcofbakhhcgbfaaDoorW.PrintLast Go.Proofs.YtcofbakhhcgbfaaDoorW.PrintMore
attribute [local go_sem] max2_int min2_int max_two min_two max_three min_three max_four min_four   -- for this text's walks alone
set_option linter.unusedVariables false
set_option linter.unusedSimpArgs false

/-! ### redactorref04_latin: function 44 -/
mutual
def redactorref04_latin.l0 : Nat → List Int → List Int → Int → Option (List Int × Int)
  | 0, _, _, _ => none
  | k + 1, x0, x4, x5 => if x5 < (x0.length : Int) then (if 0 ≤ x5 then ((redactorref01_Byte.f (rd x0 x5)).bind fun bt156 => (if bt156.2 = true then (redactorref04_latin.j1 k x0 x4 x5 bt156.1 bt156.2 false) else (redactorref04_latin.j1 k x0 x4 x5 bt156.1 bt156.2 (decide ((rd x0 x5) > 255))))) else (none)) else (some (x4, 0))
def redactorref04_latin.j1 : Nat → List Int → List Int → Int → Int → Bool → Bool → Option (List Int × Int)
  | 0, _, _, _, _, _, _ => none
  | k + 1, x0, x4, x5, x6, x7, x30 => if x30 = true then (some (([] : List Int), 11)) else (if x7 = true then (if x4.length < 140737488355328 then (redactorref04_latin.l0 k x0 (x4 ++ [x6]) (wrap64 (x5 + 1))) else (none)) else (if 0 ≤ x5 then (if x5 < (x0.length : Int) then (if x4.length < 140737488355328 then (redactorref04_latin.l0 k x0 (x4 ++ [(rd x0 x5) % 256]) (wrap64 (x5 + 1))) else (none)) else (none)) else (none)))
end
def redactorref04_latin.f (k : Nat) (l0 : List Int) : Option (List Int × Int) := redactorref04_latin.l0 k l0 ([] : List Int) 0
theorem redactorref04_latin.mono_l : ∀ k, (∀ y0 y1 y2, LeO (redactorref04_latin.l0 k y0 y1 y2) (redactorref04_latin.l0 (k + 1) y0 y1 y2)) ∧ (∀ y0 y1 y2 y3 y4 y5, LeO (redactorref04_latin.j1 k y0 y1 y2 y3 y4 y5) (redactorref04_latin.j1 (k + 1) y0 y1 y2 y3 y4 y5))
  | 0 => ⟨fun _ _ _ r h => by simp [redactorref04_latin.l0] at h, fun _ _ _ _ _ _ r h => by simp [redactorref04_latin.j1] at h⟩
  | k + 1 => by
    obtain ⟨ih0, ih1⟩ := redactorref04_latin.mono_l k
    refine ⟨?_, ?_⟩
    · intro y0 y1 y2
      unfold redactorref04_latin.l0
      repeat' first
      | (with_reducible exact ih0 _ _ _)
      | (with_reducible exact ih1 _ _ _ _ _ _)
      | (with_reducible exact LeO.refl _)
      | (with_reducible exact LeO.none _)
      | (with_reducible refine LeO.ite ?_ ?_)
      | (with_reducible refine LeO.bind ?_ (fun _ => ?_))
      | exact ih0 _ _ _
      | exact ih1 _ _ _ _ _ _
      | exact LeO.none _
      | refine LeO.ite ?_ ?_
      | refine LeO.bind ?_ (fun _ => ?_)
    · intro y0 y1 y2 y3 y4 y5
      unfold redactorref04_latin.j1
      repeat' first
      | (with_reducible exact ih0 _ _ _)
      | (with_reducible exact ih1 _ _ _ _ _ _)
      | (with_reducible exact LeO.refl _)
      | (with_reducible exact LeO.none _)
      | (with_reducible refine LeO.ite ?_ ?_)
      | (with_reducible refine LeO.bind ?_ (fun _ => ?_))
      | exact ih0 _ _ _
      | exact ih1 _ _ _ _ _ _
      | exact LeO.none _
      | refine LeO.ite ?_ ?_
      | refine LeO.bind ?_ (fun _ => ?_)
theorem redactorref04_latin.mono : ∀ a0 k, LeO (redactorref04_latin.f k a0) (redactorref04_latin.f (k + 1) a0) := by
  intro a0 k
  obtain ⟨ih0, ih1⟩ := redactorref04_latin.mono_l k
  unfold redactorref04_latin.f
  repeat' first
      | (with_reducible exact ih0 _ _ _)
      | (with_reducible exact ih1 _ _ _ _ _ _)
      | (with_reducible exact LeO.refl _)
      | (with_reducible exact LeO.none _)
      | (with_reducible refine LeO.ite ?_ ?_)
      | (with_reducible refine LeO.bind ?_ (fun _ => ?_))
      | exact ih0 _ _ _
      | exact ih1 _ _ _ _ _ _
      | exact LeO.none _
      | refine LeO.ite ?_ ?_
      | refine LeO.bind ?_ (fun _ => ?_)
set_option maxHeartbeats 8000000 in
set_option maxRecDepth 100000 in
theorem redactorref04_latin.calls (k : Nat) (A0 : Option Addr) (c0 : Nat) (l0 : List Int) (r1 : List Int) (r2 : Int) (w : World) (hr0 : Kd.C (Kd.int .i32) w A0 l0.length l0) (hc0 : l0.length ≤ c0) (h : redactorref04_latin.f k l0 = some (r1, r2)) :
    Calls Tryd.prog 44 #[.slice A0 l0.length c0] w fun e w' => ∃ v0_ : Value, e = .returned (.tuple #[v0_, .int .i64 r2]) ∧ Kd.R (Kd.int .u8) 5 w' w.heap.size (fun _ => True) v0_ r1 ∧ Below w.heap.size w w' := by
  have HR0 := Aside0.mk hr0
  have HC0 := Aside0.mk hc0
  clear hr0 hc0
  have HB := Aside0.mk (Below.refl w.heap.size w)
  have H : (redactorref04_latin.l0 k l0 ([] : List Int) 0) = some (r1, r2) := h
  clear h
  have H' := Aside0.mk H
  clear H
  go_enter Tryd.func44, Tryd.ntmps44
  go_wp2
  go_loopg [4, 5] k (fun kq v4 v5 w' => ∃ (x4_1 : List Int) (x5_1 : Int), v5 = .int .i64 x5_1 ∧ Aside0 (redactorref04_latin.l0 kq l0 x4_1 x5_1 = some (r1, r2)) ∧ Aside0 (kq ≤ k) ∧ Aside0 (Kd.R (Kd.int .u8) 5 w' w.heap.size (fun _ => True) v4 x4_1) ∧ Aside0 (Below w.heap.size w w'))
  case atStart => exact ⟨(([] : List Int)), (0), (by first | rfl | (simp; done) | (simp [*]; done)), H', ⟨Nat.le_refl _⟩, ⟨by first | exact Kd.R_nil _ _ _ _ _ | exact Kd.N_nil _ _ _ _ _ | exact Kd.V_nil _ _ _ _ _ | exact Kd.Q_nil _ _ _ _ _ | exact Kd.S_nil _ _ _ _ _⟩, ⟨by repeat (first | (with_reducible first | exact HB.out | apply below_alloc | apply pw_below_drewN | apply below_drew1) | exact HB.out)⟩⟩
  case round =>
    clear H'
    obtain ⟨x4_1, x5_1, rfl, HA, HK1, HO_4, HB⟩ := hrel
    cases gk with
    | zero => exact absurd HA.out (by simp [redactorref04_latin.l0])
    | succ k1 =>
      have H := HA.out
      clear HA
      simp only [redactorref04_latin.l0] at H
      by_cases c2 : x5_1 < (l0.length : Int)
      · rw [if_pos c2] at H
        have c2b0 : decide (x5_1 < (l0.length : Int)) = true := decide_eq_true c2
        clear c2
        by_cases c3 : 0 ≤ x5_1
        · rw [if_pos c3] at H
          have c3b0 : decide (0 ≤ x5_1) = true := decide_eq_true c3
          clear c3
          replace H := Option.bind_eq_some_iff.mp H
          obtain ⟨⟨t156, t157⟩, A40, H⟩ := H
          replace H : (if t157 = true then (redactorref04_latin.j1 k1 l0 x4_1 x5_1 t156 t157 false) else (redactorref04_latin.j1 k1 l0 x4_1 x5_1 t156 t157 (decide ((rd l0 x5_1) > 255)))) = some (r1, r2) := H
          have A4 := Aside0.mk A40
          clear A40
          have HC5 := Aside0.mk H
          clear H
          have p155 : 0 ≤ (x5_1 : Int) := of_decide_eq_true (by first | (with_reducible assumption) | assumption)
          have q155 : x5_1 < (l0.length : Int) := of_decide_eq_true (by first | (with_reducible assumption) | assumption)
          obtain ⟨ad155, e155, hx155_0⟩ := Kd.at_int HR0.out x5_1 p155 q155
          cases e155
          replace hx155_0 := (HB.out.cell (World.block_lt_of_cell? w _ hx155_0)).trans hx155_0
          replace p155 := eq_true p155
          replace q155 := eq_true q155
          go_upto_region 6 with (first | ((with_reducible refine gate_callee (f := 57) rfl ?_); refine goesL_ (some 19) rfl rfl Tryd.func57 (by kernel_rfl) rfl #[.int .i32 (rd l0 x5_1)] rfl (by (try simp only [List.map_toArray, List.map_cons, List.map_nil]); first | done | rfl | (simp only [List.length_drop, List.length_take]; rfl)) ?_; (with_reducible refine (redactorref01_Byte.calls (rd l0 x5_1) t156 t157 _ A4.out).mono ?_); rintro e w' ⟨rfl, ⟨nd, rfl⟩⟩; refine ⟨_, rfl, ?_⟩))
          (try simp only [Act.put, List.setIfInBounds_toArray, List.set_cons_zero, List.set_cons_succ])
          go_cut [30] (fun v30 wc => ∃ (kq : Nat) (x30_4 : Bool), v30 = .bool x30_4 ∧ Aside0 (redactorref04_latin.j1 kq l0 x4_1 x5_1 t156 t157 x30_4 = some (r1, r2)) ∧ Aside0 (kq ≤ k1) ∧ Aside0 (Kd.R (Kd.int .u8) 5 wc w.heap.size (fun _ => True) u4 x4_1) ∧ Aside0 (Below w.heap.size w wc))
          case first =>
            have H := HC5.out
            clear HC5
            by_cases c6 : t157 = true
            · subst c6
              have H1 : (redactorref04_latin.j1 k1 l0 x4_1 x5_1 t156 true false) = some (r1, r2) := by rw [if_pos rfl] at H; exact H
              clear H
              have H := H1
              clear H1
              have H' := Aside0.mk H
              clear H
              go_wp2
              go_meet
              case rel => exact ⟨_, (false), (by first | rfl | (simp; done) | (simp [*]; done)), H', ⟨by have := HK1.out; first | omega | exact Nat.le_refl _⟩, ⟨by (with_reducible repeat (first | apply Kd.R_alloc | apply Kd.R_drewN | apply Kd.R_drew)); exact HO_4.out⟩, ⟨by repeat (first | (with_reducible first | exact HB.out | apply below_alloc | apply pw_below_drewN | apply below_drew1) | exact HB.out)⟩⟩
            · replace c6 := Bool.eq_false_iff.mpr c6
              subst c6
              have H1 : (redactorref04_latin.j1 k1 l0 x4_1 x5_1 t156 false (decide ((rd l0 x5_1) > 255))) = some (r1, r2) := by rw [if_neg (show ¬ (false = true) by decide)] at H; exact H
              clear H
              have H := H1
              clear H1
              have H' := Aside0.mk H
              clear H
              have p158 : 0 ≤ (x5_1 : Int) := of_decide_eq_true (by first | (with_reducible assumption) | assumption)
              have q158 : x5_1 < (l0.length : Int) := of_decide_eq_true (by first | (with_reducible assumption) | assumption)
              obtain ⟨ad158, e158, hx158_0⟩ := Kd.at_int HR0.out x5_1 p158 q158
              obtain rfl : ad155 = ad158 := (by injection e158)
              replace hx158_0 := (HB.out.cell (World.block_lt_of_cell? w _ hx158_0)).trans hx158_0
              replace p158 := eq_true p158
              replace q158 := eq_true q158
              go_wp2
              go_meet
              case rel => exact ⟨_, (decide ((rd l0 x5_1) > 255)), (by first | rfl | (simp; done) | (simp [*]; done)), H', ⟨by have := HK1.out; first | omega | exact Nat.le_refl _⟩, ⟨by (with_reducible repeat (first | apply Kd.R_alloc | apply Kd.R_drewN | apply Kd.R_drew)); exact HO_4.out⟩, ⟨by repeat (first | (with_reducible first | exact HB.out | apply below_alloc | apply pw_below_drewN | apply below_drew1) | exact HB.out)⟩⟩
          case rest =>
            clear HC5
            try clear p1
            try clear q1
            try clear hx1
            try clear c2
            try clear c2b0
            try clear p2
            try clear c3
            try clear c3b0
            try clear c4
            try clear c5
            try clear c6
            try clear hx155_0
            try clear hx158_0
            try clear p155
            try clear p158
            try clear q155
            try clear q158
            obtain ⟨kq, x30_4, rfl, HA, HJ4, HO_4, HB⟩ := hcut
            cases kq with
            | zero => exact absurd HA.out (by simp [redactorref04_latin.j1])
            | succ kj4 =>
              have H := HA.out
              clear HA
              simp only [redactorref04_latin.j1] at H
              by_cases c7 : x30_4 = true
              · subst c7
                have H1 : (some (([] : List Int), 11)) = some (r1, r2) := by rw [if_pos rfl] at H; exact H
                clear H
                have H := H1
                clear H1
                simp only [Option.some.injEq, Prod.mk.injEq] at H
                obtain ⟨rfl, rfl⟩ := H
                go_wp2
                go_ret2
                exact ⟨_, by first | rfl | (simp [errW_none, errW_some] <;> rfl) | (simp [*, errW_none, errW_some] <;> rfl), by first | exact Kd.R_nil _ _ _ _ _ | exact Kd.N_nil _ _ _ _ _ | exact Kd.V_nil _ _ _ _ _ | exact Kd.Q_nil _ _ _ _ _ | exact Kd.S_nil _ _ _ _ _, by repeat (first | (with_reducible first | exact HB.out | apply below_alloc | apply pw_below_drewN | apply below_drew1) | exact HB.out)⟩
              · replace c7 := Bool.eq_false_iff.mpr c7
                subst c7
                have H1 : (if t157 = true then (if x4_1.length < 140737488355328 then (redactorref04_latin.l0 kj4 l0 (x4_1 ++ [t156]) (wrap64 (x5_1 + 1))) else (none)) else (if 0 ≤ x5_1 then (if x5_1 < (l0.length : Int) then (if x4_1.length < 140737488355328 then (redactorref04_latin.l0 kj4 l0 (x4_1 ++ [(rd l0 x5_1) % 256]) (wrap64 (x5_1 + 1))) else (none)) else (none)) else (none))) = some (r1, r2) := by rw [if_neg (show ¬ (false = true) by decide)] at H; exact H
                clear H
                have H := H1
                clear H1
                by_cases c8 : t157 = true
                · subst c8
                  have H1 : (if x4_1.length < 140737488355328 then (redactorref04_latin.l0 kj4 l0 (x4_1 ++ [t156]) (wrap64 (x5_1 + 1))) else (none)) = some (r1, r2) := by rw [if_pos rfl] at H; exact H
                  clear H
                  have H := H1
                  clear H1
                  by_cases c9 : x4_1.length < 140737488355328
                  · rw [if_pos c9] at H
                    have LMc9 := Aside0.mk c9
                    clear c9
                    obtain ⟨y159, hy159⟩ : ∃ y_ : List Int, y_ = (x4_1 ++ [t156]) := ⟨_, rfl⟩
                    replace H : (redactorref04_latin.l0 kj4 l0 y159 (wrap64 (x5_1 + 1))) = some (r1, r2) := by first | (rw [hy159]; with_reducible exact H) | (have H2_ := (Option.bind_some _ _).symm.trans H; rw [hy159]; with_reducible exact H2_) | (have H2_ := (Option.bind_some _ _).symm.trans H; with_reducible exact H2_) | with_reducible exact H | (rw [hy159]; exact H) | exact H
                    have Ny159 := Aside0.mk hy159
                    clear hy159
                    have H' := Aside0.mk H
                    clear H
                    go_wp2_with (first | ((with_reducible refine gate_builtin (b := .append) (xs := #[.tmp 38, .tmp 40]) rfl ?_); at_builtin; refine Kd.R_append (Kd.int .u8) (w0 := w) w.heap.size rfl (.tmp 38) (.tmp 40) 22 5 (.int .u8 0) 1 rfl Tryd.underlying22 info5 rfl (by decide) (by omega) u4 x4_1 t156 [.int .u8 t156] (fun _ => True) (fun _ => False) rfl rfl ?aP (fun _ hk => hk.elim) ?aF ?aO ?aB ?aS ?aL ?_; (case aP => exact rfl); (case aB => exact (by repeat (first | (with_reducible first | exact HB.out | apply below_alloc | apply pw_below_drewN | apply below_drew1) | exact HB.out))); (case aF => exact (fun _ _ => trivial)); (case aO => exact (by (with_reducible repeat (first | apply Kd.R_alloc | apply Kd.R_drewN | apply Kd.R_drew)); exact HO_4.out)); (case aS => exact (below_size (by repeat (first | (with_reducible first | exact HB.out | apply below_alloc | apply pw_below_drewN | apply below_drew1) | exact HB.out)))); (case aL => have := LMc9.out; omega); intro v160 w10 ho hb hg hat; rw [← Ny159.out] at ho; have n0_ := Aside0.mk (hb); have n1_ := Aside0.mk (ho); clear HB; clear HO_4; have HB := n0_; have HO161 := n1_; clear n0_ n1_; clear ho hb hg hat))
                    go_roundg kj4
                    case measure => have := HK1.out; have := HJ4.out; omega
                    case rel => exact ⟨(y159), (wrap64 (x5_1 + 1)), (by first | rfl | (simp; done) | (simp [*]; done)), H', ⟨by have := HK1.out; have := HJ4.out; omega⟩, ⟨by (with_reducible repeat (first | apply Kd.R_alloc | apply Kd.R_drewN | apply Kd.R_drew)); exact HO161.out⟩, ⟨by repeat (first | (with_reducible first | exact HB.out | apply below_alloc | apply pw_below_drewN | apply below_drew1) | exact HB.out)⟩⟩
                  · rw [if_neg c9] at H
                    exact absurd H (by simp)
                · replace c8 := Bool.eq_false_iff.mpr c8
                  subst c8
                  have H1 : (if 0 ≤ x5_1 then (if x5_1 < (l0.length : Int) then (if x4_1.length < 140737488355328 then (redactorref04_latin.l0 kj4 l0 (x4_1 ++ [(rd l0 x5_1) % 256]) (wrap64 (x5_1 + 1))) else (none)) else (none)) else (none)) = some (r1, r2) := by rw [if_neg (show ¬ (false = true) by decide)] at H; exact H
                  clear H
                  have H := H1
                  clear H1
                  by_cases c11 : 0 ≤ x5_1
                  · rw [if_pos c11] at H
                    have c11b0 : decide (0 ≤ x5_1) = true := decide_eq_true c11
                    clear c11
                    by_cases c12 : x5_1 < (l0.length : Int)
                    · rw [if_pos c12] at H
                      have c12b0 : decide (x5_1 < (l0.length : Int)) = true := decide_eq_true c12
                      clear c12
                      by_cases c13 : x4_1.length < 140737488355328
                      · rw [if_pos c13] at H
                        have LMc13 := Aside0.mk c13
                        clear c13
                        obtain ⟨y163, hy163⟩ : ∃ y_ : List Int, y_ = (x4_1 ++ [(rd l0 x5_1) % 256]) := ⟨_, rfl⟩
                        replace H : (redactorref04_latin.l0 kj4 l0 y163 (wrap64 (x5_1 + 1))) = some (r1, r2) := by first | (rw [hy163]; with_reducible exact H) | (have H2_ := (Option.bind_some _ _).symm.trans H; rw [hy163]; with_reducible exact H2_) | (have H2_ := (Option.bind_some _ _).symm.trans H; with_reducible exact H2_) | with_reducible exact H | (rw [hy163]; exact H) | exact H
                        have Ny163 := Aside0.mk hy163
                        clear hy163
                        have H' := Aside0.mk H
                        clear H
                        have p162 : 0 ≤ (x5_1 : Int) := of_decide_eq_true (by first | (with_reducible assumption) | assumption)
                        have q162 : x5_1 < (l0.length : Int) := of_decide_eq_true (by first | (with_reducible assumption) | assumption)
                        obtain ⟨ad162, e162, hx162_0⟩ := Kd.at_int HR0.out x5_1 p162 q162
                        obtain rfl : ad155 = ad162 := (by injection e162)
                        replace hx162_0 := (HB.out.cell (World.block_lt_of_cell? w _ hx162_0)).trans hx162_0
                        replace p162 := eq_true p162
                        replace q162 := eq_true q162
                        go_wp2_with (first | ((with_reducible refine gate_builtin (b := .append) (xs := #[.tmp 38, .tmp 40]) rfl ?_); at_builtin; refine Kd.R_append (Kd.int .u8) (w0 := w) w.heap.size rfl (.tmp 38) (.tmp 40) 22 5 (.int .u8 0) 1 rfl Tryd.underlying22 info5 rfl (by decide) (by omega) u4 x4_1 ((rd l0 x5_1) % 256) [.int .u8 ((rd l0 x5_1) % 256)] (fun _ => True) (fun _ => False) rfl rfl ?aP (fun _ hk => hk.elim) ?aF ?aO ?aB ?aS ?aL ?_; (case aP => exact rfl); (case aB => exact (by repeat (first | (with_reducible first | exact HB.out | apply below_alloc | apply pw_below_drewN | apply below_drew1) | exact HB.out))); (case aF => exact (fun _ _ => trivial)); (case aO => exact (by (with_reducible repeat (first | apply Kd.R_alloc | apply Kd.R_drewN | apply Kd.R_drew)); exact HO_4.out)); (case aS => exact (below_size (by repeat (first | (with_reducible first | exact HB.out | apply below_alloc | apply pw_below_drewN | apply below_drew1) | exact HB.out)))); (case aL => have := LMc13.out; omega); intro v164 w14 ho hb hg hat; rw [← Ny163.out] at ho; have n0_ := Aside0.mk (hb); have n1_ := Aside0.mk (ho); clear HB; clear HO_4; have HB := n0_; have HO165 := n1_; clear n0_ n1_; clear ho hb hg hat))
                        go_roundg kj4
                        case measure => have := HK1.out; have := HJ4.out; omega
                        case rel => exact ⟨(y163), (wrap64 (x5_1 + 1)), (by first | rfl | (simp; done) | (simp [*]; done)), H', ⟨by have := HK1.out; have := HJ4.out; omega⟩, ⟨by (with_reducible repeat (first | apply Kd.R_alloc | apply Kd.R_drewN | apply Kd.R_drew)); exact HO165.out⟩, ⟨by repeat (first | (with_reducible first | exact HB.out | apply below_alloc | apply pw_below_drewN | apply below_drew1) | exact HB.out)⟩⟩
                      · rw [if_neg c13] at H
                        exact absurd H (by simp)
                    · rw [if_neg c12] at H
                      exact absurd H (by simp)
                  · rw [if_neg c11] at H
                    exact absurd H (by simp)
        · rw [if_neg c3] at H
          exact absurd H (by simp)
      · rw [if_neg c2] at H
        have c2b0 : decide (x5_1 < (l0.length : Int)) = false := decide_eq_false c2
        clear c2
        simp only [Option.some.injEq, Prod.mk.injEq] at H
        obtain ⟨rfl, rfl⟩ := H
        go_wp2
        go_ret2
        exact ⟨_, by first | rfl | (simp [errW_none, errW_some] <;> rfl) | (simp [*, errW_none, errW_some] <;> rfl), by (with_reducible repeat (first | apply Kd.R_alloc | apply Kd.R_drewN | apply Kd.R_drew)); exact HO_4.out, by repeat (first | (with_reducible first | exact HB.out | apply below_alloc | apply pw_below_drewN | apply below_drew1) | exact HB.out)⟩

/-! ### redactorref03_bytes: function 59 -/
def redactorref03_bytes.f (a0 : Int) (a1 : Bool) : Option (List Int) := if a1 = true then (some (([(wrap32 (Int.tdiv a0 256)) % 256, (Int.tmod a0 256) % 256] : List Int))) else (some (([(Int.tmod a0 256) % 256, (wrap32 (Int.tdiv a0 256)) % 256] : List Int)))
set_option maxHeartbeats 8000000 in
set_option maxRecDepth 100000 in
theorem redactorref03_bytes.calls (a0 : Int) (a1 : Bool) (r : List Int) (w : World) (h : redactorref03_bytes.f a0 a1 = some r) :
    Calls Tryd.prog 59 #[.int .i32 a0, .bool a1] w fun e w' => ∃ v0_ : Value, e = .returned (v0_) ∧ Kd.R (Kd.int .u8) 5 w' w.heap.size (fun _ => True) v0_ r ∧ Below w.heap.size w w' := by
  have HB := Aside0.mk (Below.refl w.heap.size w)
  have H : (if a1 = true then (some (([(wrap32 (Int.tdiv a0 256)) % 256, (Int.tmod a0 256) % 256] : List Int))) else (some (([(Int.tmod a0 256) % 256, (wrap32 (Int.tdiv a0 256)) % 256] : List Int)))) = some r := h
  clear h
  by_cases c3 : a1 = true
  · subst c3
    have H1 : (some (([(wrap32 (Int.tdiv a0 256)) % 256, (Int.tmod a0 256) % 256] : List Int))) = some r := by rw [if_pos rfl] at H; exact H
    clear H
    have H := H1
    clear H1
    obtain ⟨y166, hy166⟩ : ∃ y_ : List Int, y_ = (([(wrap32 (Int.tdiv a0 256)) % 256, (Int.tmod a0 256) % 256] : List Int)) := ⟨_, rfl⟩
    replace H : (some y166) = some r := by first | (rw [hy166]; with_reducible exact H) | (have H2_ := (Option.bind_some _ _).symm.trans H; rw [hy166]; with_reducible exact H2_) | (have H2_ := (Option.bind_some _ _).symm.trans H; with_reducible exact H2_) | with_reducible exact H | (rw [hy166]; exact H) | exact H
    have Ny166 := Aside0.mk hy166
    clear hy166
    obtain rfl := Option.some.inj H
    go_enter Tryd.func59, Tryd.ntmps59
    go_wp2_with (first | ((with_reducible refine gate_dst (N := 12) rfl ?_); refine Kd.R_lit (Kd.int .u8) _ 5 ?hg (N := 12) ?hd (xs := ([(wrap32 (Int.tdiv a0 256)) % 256, (Int.tmod a0 256) % 256] : List Int)) (inner := [.int .u8 ((wrap32 (Int.tdiv a0 256)) % 256), .int .u8 ((Int.tmod a0 256) % 256)]) (ok := fun _ => True) (okp := fun _ => True) ?hr ?hp (fun _ hk => hk) trivial (Below.refl _ _) (Nat.le_refl _) (by simp) ?_; (case hd => rfl); (case hg => rfl); (case hr => first | (go_simp; done) | (go_simp; rfl)); (case hp => exact (Reps.one (show Kd.M (Kd.int .u8) _ _ _ ((wrap32 (Int.tdiv a0 256)) % 256) [.int .u8 ((wrap32 (Int.tdiv a0 256)) % 256)] from rfl) (Reps.one (show Kd.M (Kd.int .u8) _ _ _ ((Int.tmod a0 256) % 256) [.int .u8 ((Int.tmod a0 256) % 256)] from rfl) (Reps.none _ _)))); intro v167 w4 ho5 hb hg_ hnew_; clear hg_ hnew_; (first | rw [← Ny166.out] at ho5 | (simp only [Int.reduceToNat] at ho5; rw [← Ny166.out] at ho5)); have n0_ := Aside0.mk (Kd.R_lower ho5 (below_size (by repeat (first | (with_reducible first | exact HB.out | apply below_alloc | apply pw_below_drewN | apply below_drew1) | exact HB.out)))); have n1_ := Aside0.mk (below_step (by repeat (first | (with_reducible first | exact HB.out | apply below_alloc | apply pw_below_drewN | apply below_drew1) | exact HB.out)) hb); clear HB; have HO168 := n0_; have HB := n1_; clear n0_ n1_; clear hb ho5))
    all_goals go_ret
    all_goals exact ⟨_, by first | rfl | (simp [errW_none, errW_some] <;> rfl) | (simp [*, errW_none, errW_some] <;> rfl), by (with_reducible repeat (first | apply Kd.R_alloc | apply Kd.R_drewN | apply Kd.R_drew)); exact HO168.out, by repeat (first | (with_reducible first | exact HB.out | apply below_alloc | apply pw_below_drewN | apply below_drew1) | exact HB.out)⟩
  · replace c3 := Bool.eq_false_iff.mpr c3
    subst c3
    have H1 : (some (([(Int.tmod a0 256) % 256, (wrap32 (Int.tdiv a0 256)) % 256] : List Int))) = some r := by rw [if_neg (show ¬ (false = true) by decide)] at H; exact H
    clear H
    have H := H1
    clear H1
    obtain ⟨y169, hy169⟩ : ∃ y_ : List Int, y_ = (([(Int.tmod a0 256) % 256, (wrap32 (Int.tdiv a0 256)) % 256] : List Int)) := ⟨_, rfl⟩
    replace H : (some y169) = some r := by first | (rw [hy169]; with_reducible exact H) | (have H2_ := (Option.bind_some _ _).symm.trans H; rw [hy169]; with_reducible exact H2_) | (have H2_ := (Option.bind_some _ _).symm.trans H; with_reducible exact H2_) | with_reducible exact H | (rw [hy169]; exact H) | exact H
    have Ny169 := Aside0.mk hy169
    clear hy169
    obtain rfl := Option.some.inj H
    go_enter Tryd.func59, Tryd.ntmps59
    go_wp2_with (first | ((with_reducible refine gate_dst (N := 19) rfl ?_); refine Kd.R_lit (Kd.int .u8) _ 5 ?hg (N := 19) ?hd (xs := ([(Int.tmod a0 256) % 256, (wrap32 (Int.tdiv a0 256)) % 256] : List Int)) (inner := [.int .u8 ((Int.tmod a0 256) % 256), .int .u8 ((wrap32 (Int.tdiv a0 256)) % 256)]) (ok := fun _ => True) (okp := fun _ => True) ?hr ?hp (fun _ hk => hk) trivial (Below.refl _ _) (Nat.le_refl _) (by simp) ?_; (case hd => rfl); (case hg => rfl); (case hr => first | (go_simp; done) | (go_simp; rfl)); (case hp => exact (Reps.one (show Kd.M (Kd.int .u8) _ _ _ ((Int.tmod a0 256) % 256) [.int .u8 ((Int.tmod a0 256) % 256)] from rfl) (Reps.one (show Kd.M (Kd.int .u8) _ _ _ ((wrap32 (Int.tdiv a0 256)) % 256) [.int .u8 ((wrap32 (Int.tdiv a0 256)) % 256)] from rfl) (Reps.none _ _)))); intro v170 w6 ho7 hb hg_ hnew_; clear hg_ hnew_; (first | rw [← Ny169.out] at ho7 | (simp only [Int.reduceToNat] at ho7; rw [← Ny169.out] at ho7)); have n0_ := Aside0.mk (Kd.R_lower ho7 (below_size (by repeat (first | (with_reducible first | exact HB.out | apply below_alloc | apply pw_below_drewN | apply below_drew1) | exact HB.out)))); have n1_ := Aside0.mk (below_step (by repeat (first | (with_reducible first | exact HB.out | apply below_alloc | apply pw_below_drewN | apply below_drew1) | exact HB.out)) hb); clear HB; have HO171 := n0_; have HB := n1_; clear n0_ n1_; clear hb ho7))
    all_goals go_ret
    all_goals exact ⟨_, by first | rfl | (simp [errW_none, errW_some] <;> rfl) | (simp [*, errW_none, errW_some] <;> rfl), by (with_reducible repeat (first | apply Kd.R_alloc | apply Kd.R_drewN | apply Kd.R_drew)); exact HO171.out, by repeat (first | (with_reducible first | exact HB.out | apply below_alloc | apply pw_below_drewN | apply below_drew1) | exact HB.out)⟩

/-! ### redactorref03_Encode: function 45 -/
mutual
def redactorref03_Encode.l0 : Nat → List Int → Bool → List Int → Int → Option (List Int × Int)
  | 0, _, _, _, _ => none
  | k + 1, x0, x1, x6, x7 => if x7 < (x0.length : Int) then (if 0 ≤ x7 then ((redactorref01_Right.f (rd x0 x7)).bind fun t173 => (if t173 = true then ((redactorref01_Byte.f (rd x0 x7)).bind fun bt174 => ((some (([bt174.1] : List Int) : List Int)).bind fun y176 => (if bt174.2 = true then (redactorref03_Encode.j1 k x0 x1 x6 x7 (rd x0 x7) y176 false) else (redactorref03_Encode.j1 k x0 x1 x6 x7 (rd x0 x7) y176 (decide ((rd x0 x7) < 65536)))))) else (some (([] : List Int), 10)))) else (none)) else (some (x6, 0))
def redactorref03_Encode.j1 : Nat → List Int → Bool → List Int → Int → Int → List Int → Bool → Option (List Int × Int)
  | 0, _, _, _, _, _, _, _ => none
  | k + 1, x0, x1, x6, x7, x8, x11, x38 => if x38 = true then ((redactorref03_bytes.f x8 x1).bind fun t179 => (redactorref03_Encode.j2 k x0 x1 x6 x7 x8 t179)) else (redactorref03_Encode.j2 k x0 x1 x6 x7 x8 x11)
def redactorref03_Encode.j2 : Nat → List Int → Bool → List Int → Int → Int → List Int → Option (List Int × Int)
  | 0, _, _, _, _, _, _ => none
  | k + 1, x0, x1, x6, x7, x8, x11 => if x8 ≥ 65536 then ((redactorref03_bytes.f (wrap32 (55296 + (wrap32 (Int.tdiv (wrap32 (x8 - 65536)) 1024)))) x1).bind fun t182 => ((redactorref03_bytes.f (wrap32 (56320 + (Int.tmod (wrap32 (x8 - 65536)) 1024))) x1).bind fun t185 => (if t182.length + t185.length < 140737488355328 then ((some (t182 ++ t185 : List Int)).bind fun y188 => (if x6.length + y188.length < 140737488355328 then (redactorref03_Encode.l0 k x0 x1 (x6 ++ y188) (wrap64 (x7 + 1))) else (none))) else (none)))) else (if x6.length + x11.length < 140737488355328 then (redactorref03_Encode.l0 k x0 x1 (x6 ++ x11) (wrap64 (x7 + 1))) else (none))
end
def redactorref03_Encode.f (k : Nat) (l0 : List Int) (a1 : Bool) : Option (List Int × Int) := redactorref03_Encode.l0 k l0 a1 ([] : List Int) 0
theorem redactorref03_Encode.mono_l : ∀ k, (∀ y0 y1 y2 y3, LeO (redactorref03_Encode.l0 k y0 y1 y2 y3) (redactorref03_Encode.l0 (k + 1) y0 y1 y2 y3)) ∧ (∀ y0 y1 y2 y3 y4 y5 y6, LeO (redactorref03_Encode.j1 k y0 y1 y2 y3 y4 y5 y6) (redactorref03_Encode.j1 (k + 1) y0 y1 y2 y3 y4 y5 y6)) ∧ (∀ y0 y1 y2 y3 y4 y5, LeO (redactorref03_Encode.j2 k y0 y1 y2 y3 y4 y5) (redactorref03_Encode.j2 (k + 1) y0 y1 y2 y3 y4 y5))
  | 0 => ⟨fun _ _ _ _ r h => by simp [redactorref03_Encode.l0] at h, fun _ _ _ _ _ _ _ r h => by simp [redactorref03_Encode.j1] at h, fun _ _ _ _ _ _ r h => by simp [redactorref03_Encode.j2] at h⟩
  | k + 1 => by
    obtain ⟨ih0, ih1, ih2⟩ := redactorref03_Encode.mono_l k
    refine ⟨?_, ?_, ?_⟩
    · intro y0 y1 y2 y3
      unfold redactorref03_Encode.l0
      repeat' first
      | (with_reducible exact ih0 _ _ _ _)
      | (with_reducible exact ih1 _ _ _ _ _ _ _)
      | (with_reducible exact ih2 _ _ _ _ _ _)
      | (with_reducible exact LeO.refl _)
      | (with_reducible exact LeO.none _)
      | (with_reducible refine LeO.ite ?_ ?_)
      | (with_reducible refine LeO.bind ?_ (fun _ => ?_))
      | exact ih0 _ _ _ _
      | exact ih1 _ _ _ _ _ _ _
      | exact ih2 _ _ _ _ _ _
      | exact LeO.none _
      | refine LeO.ite ?_ ?_
      | refine LeO.bind ?_ (fun _ => ?_)
    · intro y0 y1 y2 y3 y4 y5 y6
      unfold redactorref03_Encode.j1
      repeat' first
      | (with_reducible exact ih0 _ _ _ _)
      | (with_reducible exact ih1 _ _ _ _ _ _ _)
      | (with_reducible exact ih2 _ _ _ _ _ _)
      | (with_reducible exact LeO.refl _)
      | (with_reducible exact LeO.none _)
      | (with_reducible refine LeO.ite ?_ ?_)
      | (with_reducible refine LeO.bind ?_ (fun _ => ?_))
      | exact ih0 _ _ _ _
      | exact ih1 _ _ _ _ _ _ _
      | exact ih2 _ _ _ _ _ _
      | exact LeO.none _
      | refine LeO.ite ?_ ?_
      | refine LeO.bind ?_ (fun _ => ?_)
    · intro y0 y1 y2 y3 y4 y5
      unfold redactorref03_Encode.j2
      repeat' first
      | (with_reducible exact ih0 _ _ _ _)
      | (with_reducible exact ih1 _ _ _ _ _ _ _)
      | (with_reducible exact ih2 _ _ _ _ _ _)
      | (with_reducible exact LeO.refl _)
      | (with_reducible exact LeO.none _)
      | (with_reducible refine LeO.ite ?_ ?_)
      | (with_reducible refine LeO.bind ?_ (fun _ => ?_))
      | exact ih0 _ _ _ _
      | exact ih1 _ _ _ _ _ _ _
      | exact ih2 _ _ _ _ _ _
      | exact LeO.none _
      | refine LeO.ite ?_ ?_
      | refine LeO.bind ?_ (fun _ => ?_)
theorem redactorref03_Encode.mono : ∀ a0 a1 k, LeO (redactorref03_Encode.f k a0 a1) (redactorref03_Encode.f (k + 1) a0 a1) := by
  intro a0 a1 k
  obtain ⟨ih0, ih1, ih2⟩ := redactorref03_Encode.mono_l k
  unfold redactorref03_Encode.f
  repeat' first
      | (with_reducible exact ih0 _ _ _ _)
      | (with_reducible exact ih1 _ _ _ _ _ _ _)
      | (with_reducible exact ih2 _ _ _ _ _ _)
      | (with_reducible exact LeO.refl _)
      | (with_reducible exact LeO.none _)
      | (with_reducible refine LeO.ite ?_ ?_)
      | (with_reducible refine LeO.bind ?_ (fun _ => ?_))
      | exact ih0 _ _ _ _
      | exact ih1 _ _ _ _ _ _ _
      | exact ih2 _ _ _ _ _ _
      | exact LeO.none _
      | refine LeO.ite ?_ ?_
      | refine LeO.bind ?_ (fun _ => ?_)
set_option maxHeartbeats 8000000 in
set_option maxRecDepth 100000 in
theorem redactorref03_Encode.calls (k : Nat) (A0 : Option Addr) (c0 : Nat) (l0 : List Int) (a1 : Bool) (r1 : List Int) (r2 : Int) (w : World) (hr0 : Kd.C (Kd.int .i32) w A0 l0.length l0) (hc0 : l0.length ≤ c0) (h : redactorref03_Encode.f k l0 a1 = some (r1, r2)) :
    Calls Tryd.prog 45 #[.slice A0 l0.length c0, .bool a1] w fun e w' => ∃ v0_ : Value, e = .returned (.tuple #[v0_, .int .i64 r2]) ∧ Kd.R (Kd.int .u8) 5 w' w.heap.size (fun _ => True) v0_ r1 ∧ Below w.heap.size w w' := by
  have HR0 := Aside0.mk hr0
  have HC0 := Aside0.mk hc0
  clear hr0 hc0
  have HB := Aside0.mk (Below.refl w.heap.size w)
  have H : (redactorref03_Encode.l0 k l0 a1 ([] : List Int) 0) = some (r1, r2) := h
  clear h
  have H' := Aside0.mk H
  clear H
  go_enter Tryd.func45, Tryd.ntmps45
  go_wp2
  go_loopg [6, 7] k (fun kq v6 v7 w' => ∃ (x6_1 : List Int) (x7_1 : Int), v7 = .int .i64 x7_1 ∧ Aside0 (redactorref03_Encode.l0 kq l0 a1 x6_1 x7_1 = some (r1, r2)) ∧ Aside0 (kq ≤ k) ∧ Aside0 (Kd.R (Kd.int .u8) 5 w' w.heap.size (fun _ => True) v6 x6_1) ∧ Aside0 (Below w.heap.size w w'))
  case atStart => exact ⟨(([] : List Int)), (0), (by first | rfl | (simp; done) | (simp [*]; done)), H', ⟨Nat.le_refl _⟩, ⟨by first | exact Kd.R_nil _ _ _ _ _ | exact Kd.N_nil _ _ _ _ _ | exact Kd.V_nil _ _ _ _ _ | exact Kd.Q_nil _ _ _ _ _ | exact Kd.S_nil _ _ _ _ _⟩, ⟨by repeat (first | (with_reducible first | exact HB.out | apply below_alloc | apply pw_below_drewN | apply below_drew1) | exact HB.out)⟩⟩
  case round =>
    clear H'
    try clear p2
    obtain ⟨x6_1, x7_1, rfl, HA, HK1, HO_6, HB⟩ := hrel
    cases gk with
    | zero => exact absurd HA.out (by simp [redactorref03_Encode.l0])
    | succ k1 =>
      have H := HA.out
      clear HA
      simp only [redactorref03_Encode.l0] at H
      by_cases c3 : x7_1 < (l0.length : Int)
      · rw [if_pos c3] at H
        have c3b0 : decide (x7_1 < (l0.length : Int)) = true := decide_eq_true c3
        clear c3
        by_cases c4 : 0 ≤ x7_1
        · rw [if_pos c4] at H
          have c4b0 : decide (0 ≤ x7_1) = true := decide_eq_true c4
          clear c4
          replace H := Option.bind_eq_some_iff.mp H
          obtain ⟨t173, A50, H⟩ := H
          replace H : (if t173 = true then ((redactorref01_Byte.f (rd l0 x7_1)).bind fun bt174 => ((some (([bt174.1] : List Int) : List Int)).bind fun y176 => (if bt174.2 = true then (redactorref03_Encode.j1 k1 l0 a1 x6_1 x7_1 (rd l0 x7_1) y176 false) else (redactorref03_Encode.j1 k1 l0 a1 x6_1 x7_1 (rd l0 x7_1) y176 (decide ((rd l0 x7_1) < 65536)))))) else (some (([] : List Int), 10))) = some (r1, r2) := H
          have A5 := Aside0.mk A50
          clear A50
          by_cases c6 : t173 = true
          · subst c6
            have H1 : ((redactorref01_Byte.f (rd l0 x7_1)).bind fun bt174 => ((some (([bt174.1] : List Int) : List Int)).bind fun y176 => (if bt174.2 = true then (redactorref03_Encode.j1 k1 l0 a1 x6_1 x7_1 (rd l0 x7_1) y176 false) else (redactorref03_Encode.j1 k1 l0 a1 x6_1 x7_1 (rd l0 x7_1) y176 (decide ((rd l0 x7_1) < 65536)))))) = some (r1, r2) := by rw [if_pos rfl] at H; exact H
            clear H
            have H := H1
            clear H1
            replace H := Option.bind_eq_some_iff.mp H
            obtain ⟨⟨t174, t175⟩, A70, H⟩ := H
            replace H : ((some (([t174] : List Int) : List Int)).bind fun y176 => (if t175 = true then (redactorref03_Encode.j1 k1 l0 a1 x6_1 x7_1 (rd l0 x7_1) y176 false) else (redactorref03_Encode.j1 k1 l0 a1 x6_1 x7_1 (rd l0 x7_1) y176 (decide ((rd l0 x7_1) < 65536))))) = some (r1, r2) := H
            have A7 := Aside0.mk A70
            clear A70
            obtain ⟨y176, hy176⟩ : ∃ y_ : List Int, y_ = (([t174] : List Int)) := ⟨_, rfl⟩
            replace H : (if t175 = true then (redactorref03_Encode.j1 k1 l0 a1 x6_1 x7_1 (rd l0 x7_1) y176 false) else (redactorref03_Encode.j1 k1 l0 a1 x6_1 x7_1 (rd l0 x7_1) y176 (decide ((rd l0 x7_1) < 65536)))) = some (r1, r2) := by first | (rw [hy176]; with_reducible exact H) | (have H2_ := (Option.bind_some _ _).symm.trans H; rw [hy176]; with_reducible exact H2_) | (have H2_ := (Option.bind_some _ _).symm.trans H; with_reducible exact H2_) | with_reducible exact H | (rw [hy176]; exact H) | exact H
            have Ny176 := Aside0.mk hy176
            clear hy176
            have HC8 := Aside0.mk H
            clear H
            have p172 : 0 ≤ (x7_1 : Int) := of_decide_eq_true (by first | (with_reducible assumption) | assumption)
            have q172 : x7_1 < (l0.length : Int) := of_decide_eq_true (by first | (with_reducible assumption) | assumption)
            obtain ⟨ad172, e172, hx172_0⟩ := Kd.at_int HR0.out x7_1 p172 q172
            cases e172
            replace hx172_0 := (HB.out.cell (World.block_lt_of_cell? w _ hx172_0)).trans hx172_0
            replace p172 := eq_true p172
            replace q172 := eq_true q172
            go_upto_region 10 with (first | ((with_reducible refine gate_callee (f := 16) rfl ?_); refine goesL_ (some 24) rfl rfl Tryd.func16 (by kernel_rfl) rfl #[.int .i32 (rd l0 x7_1)] rfl (by (try simp only [List.map_toArray, List.map_cons, List.map_nil]); first | done | rfl | (simp only [List.length_drop, List.length_take]; rfl)) ?_; (with_reducible refine (redactorref01_Right.calls (rd l0 x7_1) true _ A5.out).mono ?_); rintro e w' ⟨rfl, ⟨nd, rfl⟩⟩; refine ⟨_, rfl, ?_⟩) | ((with_reducible refine gate_callee (f := 57) rfl ?_); refine goesL_ (some 28) rfl rfl Tryd.func57 (by kernel_rfl) rfl #[.int .i32 (rd l0 x7_1)] rfl (by (try simp only [List.map_toArray, List.map_cons, List.map_nil]); first | done | rfl | (simp only [List.length_drop, List.length_take]; rfl)) ?_; (with_reducible refine (redactorref01_Byte.calls (rd l0 x7_1) t174 t175 _ A7.out).mono ?_); rintro e w' ⟨rfl, ⟨nd, rfl⟩⟩; refine ⟨_, rfl, ?_⟩) | ((with_reducible refine gate_dst (N := 32) rfl ?_); refine Kd.R_lit (Kd.int .u8) _ 5 ?hg (N := 32) ?hd (xs := ([t174] : List Int)) (inner := [.int .u8 t174]) (ok := fun _ => True) (okp := fun _ => True) ?hr ?hp (fun _ hk => hk) trivial (Below.refl _ _) (Nat.le_refl _) (by simp) ?_; (case hd => rfl); (case hg => rfl); (case hr => first | (go_simp; done) | (go_simp; rfl)); (case hp => exact (Reps.one (show Kd.M (Kd.int .u8) _ _ _ t174 [.int .u8 t174] from rfl) (Reps.none _ _))); intro v177 w9 ho10 hb hg_ hnew_; clear hg_ hnew_; (first | rw [← Ny176.out] at ho10 | (simp only [Int.reduceToNat] at ho10; rw [← Ny176.out] at ho10)); have n0_ := Aside0.mk (Kd.R_elder' (by (with_reducible repeat (first | apply Kd.R_alloc | apply Kd.R_drewN | apply Kd.R_drew)); exact HO_6.out) (Kd.R_base ho10) hb); have n1_ := Aside0.mk (Kd.R_lower (Kd.R_new' ho10 (Kd.R_lt (by (with_reducible repeat (first | apply Kd.R_alloc | apply Kd.R_drewN | apply Kd.R_drew)); exact HO_6.out))) (below_size (by repeat (first | (with_reducible first | exact HB.out | apply below_alloc | apply pw_below_drewN | apply below_drew1) | exact HB.out)))); have n2_ := Aside0.mk (below_step (by repeat (first | (with_reducible first | exact HB.out | apply below_alloc | apply pw_below_drewN | apply below_drew1) | exact HB.out)) hb); clear HO_6; clear HB; have HO_6 := n0_; have HO178 := n1_; have HB := n2_; clear n0_ n1_ n2_; clear hb ho10))
            (try simp only [Act.put, List.setIfInBounds_toArray, List.set_cons_zero, List.set_cons_succ])
            go_cut [38] (fun v38 wc => ∃ (kq : Nat) (x38_7 : Bool), v38 = .bool x38_7 ∧ Aside0 (redactorref03_Encode.j1 kq l0 a1 x6_1 x7_1 (rd l0 x7_1) y176 x38_7 = some (r1, r2)) ∧ Aside0 (kq ≤ k1) ∧ Aside0 (Kd.R (Kd.int .u8) 5 wc w.heap.size (fun k_ => some k_ ≠ (v177 : Value).ownBlock) u6 x6_1) ∧ Aside0 (Kd.R (Kd.int .u8) 5 wc w.heap.size (fun k_ => some k_ ≠ (u6 : Value).ownBlock) v177 y176) ∧ Aside0 (Below w.heap.size w wc))
            case first =>
              have H := HC8.out
              clear HC8
              by_cases c11 : t175 = true
              · subst c11
                have H1 : (redactorref03_Encode.j1 k1 l0 a1 x6_1 x7_1 (rd l0 x7_1) y176 false) = some (r1, r2) := by rw [if_pos rfl] at H; exact H
                clear H
                have H := H1
                clear H1
                have H' := Aside0.mk H
                clear H
                go_wp2
                go_meet
                case rel => exact ⟨_, (false), (by first | rfl | (simp; done) | (simp [*]; done)), H', ⟨by have := HK1.out; first | omega | exact Nat.le_refl _⟩, ⟨by (with_reducible repeat (first | apply Kd.R_alloc | apply Kd.R_drewN | apply Kd.R_drew)); exact Kd.R_mono HO_6.out (fun _ hk => hk.2)⟩, ⟨by (with_reducible repeat (first | apply Kd.R_alloc | apply Kd.R_drewN | apply Kd.R_drew)); exact Kd.R_mono HO178.out (fun _ hk => hk.2)⟩, ⟨by repeat (first | (with_reducible first | exact HB.out | apply below_alloc | apply pw_below_drewN | apply below_drew1) | exact HB.out)⟩⟩
              · replace c11 := Bool.eq_false_iff.mpr c11
                subst c11
                have H1 : (redactorref03_Encode.j1 k1 l0 a1 x6_1 x7_1 (rd l0 x7_1) y176 (decide ((rd l0 x7_1) < 65536))) = some (r1, r2) := by rw [if_neg (show ¬ (false = true) by decide)] at H; exact H
                clear H
                have H := H1
                clear H1
                have H' := Aside0.mk H
                clear H
                go_wp2
                go_meet
                case rel => exact ⟨_, (decide ((rd l0 x7_1) < 65536)), (by first | rfl | (simp; done) | (simp [*]; done)), H', ⟨by have := HK1.out; first | omega | exact Nat.le_refl _⟩, ⟨by (with_reducible repeat (first | apply Kd.R_alloc | apply Kd.R_drewN | apply Kd.R_drew)); exact Kd.R_mono HO_6.out (fun _ hk => hk.2)⟩, ⟨by (with_reducible repeat (first | apply Kd.R_alloc | apply Kd.R_drewN | apply Kd.R_drew)); exact Kd.R_mono HO178.out (fun _ hk => hk.2)⟩, ⟨by repeat (first | (with_reducible first | exact HB.out | apply below_alloc | apply pw_below_drewN | apply below_drew1) | exact HB.out)⟩⟩
            case rest =>
              clear HC8
              try clear c1
              try clear p1
              try clear q1
              try clear hx1
              try clear p2
              try clear c3
              try clear c3b0
              try clear c4
              try clear c4b0
              try clear c5
              try clear c6
              try clear c11
              try clear hx172_0
              try clear p172
              try clear p2
              try clear q172
              obtain ⟨kq, x38_7, rfl, HA, HJ7, HO_6, HO_11, HB⟩ := hcut
              cases kq with
              | zero => exact absurd HA.out (by simp [redactorref03_Encode.j1])
              | succ kj7 =>
                have H := HA.out
                clear HA
                simp only [redactorref03_Encode.j1] at H
                have HC12 := Aside0.mk H
                clear H
                go_upto_if 38 with (fail)
                go_cut [11] (fun v11 wc => ∃ (kq : Nat) (x11_11 : List Int), Aside0 (redactorref03_Encode.j2 kq l0 a1 x6_1 x7_1 (rd l0 x7_1) x11_11 = some (r1, r2)) ∧ Aside0 (kq ≤ kj7) ∧ Aside0 (Kd.R (Kd.int .u8) 5 wc w.heap.size (fun k_ => some k_ ≠ (v11 : Value).ownBlock) u6 x6_1) ∧ Aside0 (Kd.R (Kd.int .u8) 5 wc w.heap.size (fun k_ => some k_ ≠ (u6 : Value).ownBlock) v11 x11_11) ∧ Aside0 (Below w.heap.size w wc))
                case first =>
                  have H := HC12.out
                  clear HC12
                  by_cases c13 : x38_7 = true
                  · subst c13
                    have H1 : ((redactorref03_bytes.f (rd l0 x7_1) a1).bind fun t179 => (redactorref03_Encode.j2 kj7 l0 a1 x6_1 x7_1 (rd l0 x7_1) t179)) = some (r1, r2) := by rw [if_pos rfl] at H; exact H
                    clear H
                    have H := H1
                    clear H1
                    replace H := Option.bind_eq_some_iff.mp H
                    obtain ⟨t179, A140, H⟩ := H
                    replace H : (redactorref03_Encode.j2 kj7 l0 a1 x6_1 x7_1 (rd l0 x7_1) t179) = some (r1, r2) := H
                    have A14 := Aside0.mk A140
                    clear A140
                    have H' := Aside0.mk H
                    clear H
                    go_wp2_with (first | ((with_reducible refine gate_callee (f := 59) rfl ?_); refine goesL_ (some 41) rfl rfl Tryd.func59 (by kernel_rfl) rfl #[.int .i32 (rd l0 x7_1), .bool a1] rfl (by (try simp only [List.map_toArray, List.map_cons, List.map_nil]); first | done | rfl | (simp only [List.length_drop, List.length_take]; rfl)) ?_; (with_reducible refine (redactorref03_bytes.calls (rd l0 x7_1) a1 t179 _ A14.out).mono ?_); rintro e w15 ⟨v180, rfl, ho0, hb⟩; refine ⟨_, rfl, ?_⟩; have n0_ := Aside0.mk (Kd.R_elder' (by (with_reducible repeat (first | apply Kd.R_alloc | apply Kd.R_drewN | apply Kd.R_drew)); exact HO_6.out) (Kd.R_base ho0) hb); have n1_ := Aside0.mk (Kd.R_elder' (by (with_reducible repeat (first | apply Kd.R_alloc | apply Kd.R_drewN | apply Kd.R_drew)); exact HO_11.out) (Kd.R_base ho0) hb); have n2_ := Aside0.mk (Kd.R_lower (Kd.R_new' (Kd.R_new' ho0 (Kd.R_lt (by (with_reducible repeat (first | apply Kd.R_alloc | apply Kd.R_drewN | apply Kd.R_drew)); exact HO_6.out))) (Kd.R_lt (by (with_reducible repeat (first | apply Kd.R_alloc | apply Kd.R_drewN | apply Kd.R_drew)); exact HO_11.out))) (below_size (by repeat (first | (with_reducible first | exact HB.out | apply below_alloc | apply pw_below_drewN | apply below_drew1) | exact HB.out)))); have n3_ := Aside0.mk (below_step (by repeat (first | (with_reducible first | exact HB.out | apply below_alloc | apply pw_below_drewN | apply below_drew1) | exact HB.out)) hb); clear HO_6; clear HO_11; clear HB; have HO_6 := n0_; have HO_11 := n1_; have HO181 := n2_; have HB := n3_; clear n0_ n1_ n2_ n3_; (try clear hb); (try clear hb2); (try clear hk); (try clear hi); (try clear ho0)))
                    go_meet
                    case rel => exact ⟨_, (t179), H', ⟨by have := HK1.out; have := HJ7.out; first | omega | exact Nat.le_refl _⟩, ⟨by (with_reducible repeat (first | apply Kd.R_alloc | apply Kd.R_drewN | apply Kd.R_drew)); exact Kd.R_mono HO_6.out (fun _ hk => hk.2)⟩, ⟨by (with_reducible repeat (first | apply Kd.R_alloc | apply Kd.R_drewN | apply Kd.R_drew)); exact Kd.R_mono HO181.out (fun _ hk => hk.1.2)⟩, ⟨by repeat (first | (with_reducible first | exact HB.out | apply below_alloc | apply pw_below_drewN | apply below_drew1) | exact HB.out)⟩⟩
                  · replace c13 := Bool.eq_false_iff.mpr c13
                    subst c13
                    have H1 : (redactorref03_Encode.j2 kj7 l0 a1 x6_1 x7_1 (rd l0 x7_1) y176) = some (r1, r2) := by rw [if_neg (show ¬ (false = true) by decide)] at H; exact H
                    clear H
                    have H := H1
                    clear H1
                    have H' := Aside0.mk H
                    clear H
                    go_wp2
                    go_meet
                    case rel => exact ⟨_, (y176), H', ⟨by have := HK1.out; have := HJ7.out; first | omega | exact Nat.le_refl _⟩, ⟨by (with_reducible repeat (first | apply Kd.R_alloc | apply Kd.R_drewN | apply Kd.R_drew)); exact HO_6.out⟩, ⟨by (with_reducible repeat (first | apply Kd.R_alloc | apply Kd.R_drewN | apply Kd.R_drew)); exact HO_11.out⟩, ⟨by repeat (first | (with_reducible first | exact HB.out | apply below_alloc | apply pw_below_drewN | apply below_drew1) | exact HB.out)⟩⟩
                case rest =>
                  clear HC12
                  try clear c1
                  try clear p1
                  try clear q1
                  try clear hx1
                  try clear p2
                  try clear c3
                  try clear c3b0
                  try clear c4
                  try clear c4b0
                  try clear c5
                  try clear c6
                  try clear c11
                  try clear c13
                  try clear hx172_0
                  try clear p1
                  try clear p172
                  try clear p2
                  try clear q1
                  try clear q172
                  obtain ⟨kq, x11_11, HA, HJ11, HO_6, HO_11, HB⟩ := hcut
                  cases kq with
                  | zero => exact absurd HA.out (by simp [redactorref03_Encode.j2])
                  | succ kj11 =>
                    have H := HA.out
                    clear HA
                    simp only [redactorref03_Encode.j2] at H
                    by_cases c16 : (rd l0 x7_1) ≥ 65536
                    · rw [if_pos c16] at H
                      have c16b0 : decide (65536 ≤ (rd l0 x7_1)) = true := decide_eq_true c16
                      clear c16
                      replace H := Option.bind_eq_some_iff.mp H
                      obtain ⟨t182, A170, H⟩ := H
                      replace H : ((redactorref03_bytes.f (wrap32 (56320 + (Int.tmod (wrap32 ((rd l0 x7_1) - 65536)) 1024))) a1).bind fun t185 => (if t182.length + t185.length < 140737488355328 then ((some (t182 ++ t185 : List Int)).bind fun y188 => (if x6_1.length + y188.length < 140737488355328 then (redactorref03_Encode.l0 kj11 l0 a1 (x6_1 ++ y188) (wrap64 (x7_1 + 1))) else (none))) else (none))) = some (r1, r2) := H
                      have A17 := Aside0.mk A170
                      clear A170
                      replace H := Option.bind_eq_some_iff.mp H
                      obtain ⟨t185, A180, H⟩ := H
                      replace H : (if t182.length + t185.length < 140737488355328 then ((some (t182 ++ t185 : List Int)).bind fun y188 => (if x6_1.length + y188.length < 140737488355328 then (redactorref03_Encode.l0 kj11 l0 a1 (x6_1 ++ y188) (wrap64 (x7_1 + 1))) else (none))) else (none)) = some (r1, r2) := H
                      have A18 := Aside0.mk A180
                      clear A180
                      by_cases c19 : t182.length + t185.length < 140737488355328
                      · rw [if_pos c19] at H
                        have LMc19 := Aside0.mk c19
                        clear c19
                        obtain ⟨y188, hy188⟩ : ∃ y_ : List Int, y_ = (t182 ++ t185) := ⟨_, rfl⟩
                        replace H : (if x6_1.length + y188.length < 140737488355328 then (redactorref03_Encode.l0 kj11 l0 a1 (x6_1 ++ y188) (wrap64 (x7_1 + 1))) else (none)) = some (r1, r2) := by first | (rw [hy188]; with_reducible exact H) | (have H2_ := (Option.bind_some _ _).symm.trans H; rw [hy188]; with_reducible exact H2_) | (have H2_ := (Option.bind_some _ _).symm.trans H; with_reducible exact H2_) | with_reducible exact H | (rw [hy188]; exact H) | exact H
                        have Ny188 := Aside0.mk hy188
                        clear hy188
                        by_cases c20 : x6_1.length + y188.length < 140737488355328
                        · rw [if_pos c20] at H
                          have LMc20 := Aside0.mk c20
                          clear c20
                          obtain ⟨y191, hy191⟩ : ∃ y_ : List Int, y_ = (x6_1 ++ y188) := ⟨_, rfl⟩
                          replace H : (redactorref03_Encode.l0 kj11 l0 a1 y191 (wrap64 (x7_1 + 1))) = some (r1, r2) := by first | (rw [hy191]; with_reducible exact H) | (have H2_ := (Option.bind_some _ _).symm.trans H; rw [hy191]; with_reducible exact H2_) | (have H2_ := (Option.bind_some _ _).symm.trans H; with_reducible exact H2_) | with_reducible exact H | (rw [hy191]; exact H) | exact H
                          have Ny191 := Aside0.mk hy191
                          clear hy191
                          have H' := Aside0.mk H
                          clear H
                          go_wp2_with (first | ((with_reducible refine gate_callee (f := 59) rfl ?_); refine goesL_ (some 49) rfl rfl Tryd.func59 (by kernel_rfl) rfl #[.int .i32 (wrap32 (55296 + (wrap32 (Int.tdiv (wrap32 ((rd l0 x7_1) - 65536)) 1024)))), .bool a1] rfl (by (try simp only [List.map_toArray, List.map_cons, List.map_nil]); first | done | rfl | (simp only [List.length_drop, List.length_take]; rfl)) ?_; (with_reducible refine (redactorref03_bytes.calls (wrap32 (55296 + (wrap32 (Int.tdiv (wrap32 ((rd l0 x7_1) - 65536)) 1024)))) a1 t182 _ A17.out).mono ?_); rintro e w21 ⟨v183, rfl, ho0, hb⟩; refine ⟨_, rfl, ?_⟩; have n0_ := Aside0.mk (Kd.R_elder' (by (with_reducible repeat (first | apply Kd.R_alloc | apply Kd.R_drewN | apply Kd.R_drew)); exact HO_6.out) (Kd.R_base ho0) hb); have n1_ := Aside0.mk (Kd.R_elder' (by (with_reducible repeat (first | apply Kd.R_alloc | apply Kd.R_drewN | apply Kd.R_drew)); exact HO_11.out) (Kd.R_base ho0) hb); have n2_ := Aside0.mk (Kd.R_lower (Kd.R_new' (Kd.R_new' ho0 (Kd.R_lt (by (with_reducible repeat (first | apply Kd.R_alloc | apply Kd.R_drewN | apply Kd.R_drew)); exact HO_6.out))) (Kd.R_lt (by (with_reducible repeat (first | apply Kd.R_alloc | apply Kd.R_drewN | apply Kd.R_drew)); exact HO_11.out))) (below_size (by repeat (first | (with_reducible first | exact HB.out | apply below_alloc | apply pw_below_drewN | apply below_drew1) | exact HB.out)))); have n3_ := Aside0.mk (below_step (by repeat (first | (with_reducible first | exact HB.out | apply below_alloc | apply pw_below_drewN | apply below_drew1) | exact HB.out)) hb); clear HO_6; clear HO_11; clear HB; have HO_6 := n0_; have HO_11 := n1_; have HO184 := n2_; have HB := n3_; clear n0_ n1_ n2_ n3_; (try clear hb); (try clear hb2); (try clear hk); (try clear hi); (try clear ho0)) | ((with_reducible refine gate_callee (f := 59) rfl ?_); refine goesL_ (some 55) rfl rfl Tryd.func59 (by kernel_rfl) rfl #[.int .i32 (wrap32 (56320 + (Int.tmod (wrap32 ((rd l0 x7_1) - 65536)) 1024))), .bool a1] rfl (by (try simp only [List.map_toArray, List.map_cons, List.map_nil]); first | done | rfl | (simp only [List.length_drop, List.length_take]; rfl)) ?_; (with_reducible refine (redactorref03_bytes.calls (wrap32 (56320 + (Int.tmod (wrap32 ((rd l0 x7_1) - 65536)) 1024))) a1 t185 _ A18.out).mono ?_); rintro e w22 ⟨v186, rfl, ho0, hb⟩; refine ⟨_, rfl, ?_⟩; have n0_ := Aside0.mk (Kd.R_elder' (by (with_reducible repeat (first | apply Kd.R_alloc | apply Kd.R_drewN | apply Kd.R_drew)); exact HO_6.out) (Kd.R_base ho0) hb); have n1_ := Aside0.mk (Kd.R_elder' (by (with_reducible repeat (first | apply Kd.R_alloc | apply Kd.R_drewN | apply Kd.R_drew)); exact HO_11.out) (Kd.R_base ho0) hb); have n2_ := Aside0.mk (Kd.R_elder' (by (with_reducible repeat (first | apply Kd.R_alloc | apply Kd.R_drewN | apply Kd.R_drew)); exact HO184.out) (Kd.R_base ho0) hb); have n3_ := Aside0.mk (Kd.R_lower (Kd.R_new' (Kd.R_new' (Kd.R_new' ho0 (Kd.R_lt (by (with_reducible repeat (first | apply Kd.R_alloc | apply Kd.R_drewN | apply Kd.R_drew)); exact HO_6.out))) (Kd.R_lt (by (with_reducible repeat (first | apply Kd.R_alloc | apply Kd.R_drewN | apply Kd.R_drew)); exact HO_11.out))) (Kd.R_lt (by (with_reducible repeat (first | apply Kd.R_alloc | apply Kd.R_drewN | apply Kd.R_drew)); exact HO184.out))) (below_size (by repeat (first | (with_reducible first | exact HB.out | apply below_alloc | apply pw_below_drewN | apply below_drew1) | exact HB.out)))); have n4_ := Aside0.mk (below_step (by repeat (first | (with_reducible first | exact HB.out | apply below_alloc | apply pw_below_drewN | apply below_drew1) | exact HB.out)) hb); clear HO_6; clear HO_11; clear HO184; clear HB; have HO_6 := n0_; have HO_11 := n1_; have HO184 := n2_; have HO187 := n3_; have HB := n4_; clear n0_ n1_ n2_ n3_ n4_; (try clear hb); (try clear hb2); (try clear hk); (try clear hi); (try clear ho0); obtain ⟨Ao24, co24, eo24⟩ := Kd.R_slice HO187.out; subst eo24) | ((with_reducible refine gate_builtin (b := .append) (xs := #[.tmp 56, .tmp 57]) rfl ?_); at_builtin; refine Kd.R_append_rows (Kd.int .u8) (w0 := w) w.heap.size rfl (.tmp 56) (.tmp 57) 22 5 (.int .u8 0) 1 rfl Tryd.underlying22 info5 rfl (by decide) (by omega) v183 t182 t185 _ _ _ (fun k_ => some k_ ≠ (u6 : Value).ownBlock ∧ some k_ ≠ (u11 : Value).ownBlock ∧ some k_ ≠ (.slice Ao24 t185.length co24 : Value).ownBlock) (fun _ => False) rfl rfl ?aO ?aR (fun _ _ h => h) (fun _ h => h.elim) ?aF ?aB ?aS ?aL ?_; (case aR => repeat (first | exact (Kd.R_reads' HO187.out).2.2 | (with_reducible refine Kd.C_alloc ?_ _) | (with_reducible refine Kd.C_drewN ?_ _) | (with_reducible refine Kd.C_drew ?_))); (case aB => exact (by repeat (first | (with_reducible first | exact HB.out | apply below_alloc | apply pw_below_drewN | apply below_drew1) | exact HB.out))); (case aF => exact (fun k_ hk => ⟨Kd.fresh' (Kd.R_lt (by (with_reducible repeat (first | apply Kd.R_alloc | apply Kd.R_drewN | apply Kd.R_drew)); exact HO_6.out)) k_ hk, Kd.fresh' (Kd.R_lt (by (with_reducible repeat (first | apply Kd.R_alloc | apply Kd.R_drewN | apply Kd.R_drew)); exact HO_11.out)) k_ hk, Kd.fresh' (Kd.R_lt (by (with_reducible repeat (first | apply Kd.R_alloc | apply Kd.R_drewN | apply Kd.R_drew)); exact HO187.out)) k_ hk⟩)); (case aO => exact (by (with_reducible repeat (first | apply Kd.R_alloc | apply Kd.R_drewN | apply Kd.R_drew)); exact Kd.R_mono HO184.out (fun _ hk => ⟨hk.1.1.2, ⟨hk.1.2, hk.2⟩⟩))); (case aS => exact (below_size (by repeat (first | (with_reducible first | exact HB.out | apply below_alloc | apply pw_below_drewN | apply below_drew1) | exact HB.out)))); (case aL => have := LMc19.out; omega); intro v189 w23 ho hb hg hat; rw [← Ny188.out] at ho; have n0_ := Aside0.mk (Kd.R_after (ok := (fun k_ => some k_ ≠ (u11 : Value).ownBlock ∧ some k_ ≠ (.slice Ao24 t185.length co24 : Value).ownBlock)) (by (with_reducible repeat (first | apply Kd.R_alloc | apply Kd.R_drewN | apply Kd.R_drew)); exact Kd.R_mono HO_6.out (fun _ hk => ⟨⟨hk.1.1, hk.2⟩, hk.1.2⟩)) hg hat); have n1_ := Aside0.mk (Kd.R_after (ok := (fun k_ => some k_ ≠ (u6 : Value).ownBlock ∧ some k_ ≠ (.slice Ao24 t185.length co24 : Value).ownBlock)) (by (with_reducible repeat (first | apply Kd.R_alloc | apply Kd.R_drewN | apply Kd.R_drew)); exact Kd.R_mono HO_11.out (fun _ hk => ⟨⟨hk.1.1, hk.2⟩, hk.1.2⟩)) hg hat); have n2_ := Aside0.mk (Kd.R_after (ok := (fun k_ => some k_ ≠ (u6 : Value).ownBlock ∧ some k_ ≠ (u11 : Value).ownBlock)) (by (with_reducible repeat (first | apply Kd.R_alloc | apply Kd.R_drewN | apply Kd.R_drew)); exact Kd.R_mono HO187.out (fun _ hk => ⟨⟨hk.1.1.2, hk.1.2⟩, hk.2⟩)) hg hat); have n3_ := Aside0.mk (hb); have n4_ := Aside0.mk (ho); clear HO_6; clear HO_11; clear HO187; clear HB; clear HO184; have HO_6 := n0_; have HO_11 := n1_; have HO187 := n2_; have HB := n3_; have HO190 := n4_; clear n0_ n1_ n2_ n3_ n4_; clear ho hb hg hat; obtain ⟨Ao26, co26, eo26⟩ := Kd.R_slice HO190.out; subst eo26) | ((with_reducible refine gate_builtin (b := .append) (xs := #[.tmp 59, .tmp 60]) rfl ?_); at_builtin; refine Kd.R_append_rows (Kd.int .u8) (w0 := w) w.heap.size rfl (.tmp 59) (.tmp 60) 22 5 (.int .u8 0) 1 rfl Tryd.underlying22 info5 rfl (by decide) (by omega) u6 x6_1 y188 _ _ _ (fun k_ => some k_ ≠ (u11 : Value).ownBlock ∧ some k_ ≠ (.slice Ao24 t185.length co24 : Value).ownBlock ∧ some k_ ≠ (.slice Ao26 y188.length co26 : Value).ownBlock) (fun _ => False) rfl rfl ?aO ?aR (fun _ _ h => h) (fun _ h => h.elim) ?aF ?aB ?aS ?aL ?_; (case aR => repeat (first | exact (Kd.R_reads' HO190.out).2.2 | (with_reducible refine Kd.C_alloc ?_ _) | (with_reducible refine Kd.C_drewN ?_ _) | (with_reducible refine Kd.C_drew ?_))); (case aB => exact (by repeat (first | (with_reducible first | exact HB.out | apply below_alloc | apply pw_below_drewN | apply below_drew1) | exact HB.out))); (case aF => exact (fun k_ hk => ⟨Kd.fresh' (Kd.R_lt (by (with_reducible repeat (first | apply Kd.R_alloc | apply Kd.R_drewN | apply Kd.R_drew)); exact HO_11.out)) k_ hk, Kd.fresh' (Kd.R_lt (by (with_reducible repeat (first | apply Kd.R_alloc | apply Kd.R_drewN | apply Kd.R_drew)); exact HO187.out)) k_ hk, Kd.fresh' (Kd.R_lt (by (with_reducible repeat (first | apply Kd.R_alloc | apply Kd.R_drewN | apply Kd.R_drew)); exact HO190.out)) k_ hk⟩)); (case aO => exact (by (with_reducible repeat (first | apply Kd.R_alloc | apply Kd.R_drewN | apply Kd.R_drew)); exact Kd.R_mono HO_6.out (fun _ hk => ⟨hk.1.1, ⟨hk.1.2, hk.2⟩⟩))); (case aS => exact (below_size (by repeat (first | (with_reducible first | exact HB.out | apply below_alloc | apply pw_below_drewN | apply below_drew1) | exact HB.out)))); (case aL => have := LMc20.out; omega); intro v192 w25 ho hb hg hat; rw [← Ny191.out] at ho; have n0_ := Aside0.mk (Kd.R_after (ok := (fun k_ => some k_ ≠ (.slice Ao24 t185.length co24 : Value).ownBlock ∧ some k_ ≠ (.slice Ao26 y188.length co26 : Value).ownBlock)) (by (with_reducible repeat (first | apply Kd.R_alloc | apply Kd.R_drewN | apply Kd.R_drew)); exact Kd.R_mono HO_11.out (fun _ hk => ⟨⟨hk.1.2, hk.2⟩, hk.1.1⟩)) hg hat); have n1_ := Aside0.mk (Kd.R_after (ok := (fun k_ => some k_ ≠ (u11 : Value).ownBlock ∧ some k_ ≠ (.slice Ao26 y188.length co26 : Value).ownBlock)) (by (with_reducible repeat (first | apply Kd.R_alloc | apply Kd.R_drewN | apply Kd.R_drew)); exact Kd.R_mono HO187.out (fun _ hk => ⟨⟨hk.1.2, hk.2⟩, hk.1.1⟩)) hg hat); have n2_ := Aside0.mk (Kd.R_after (ok := (fun k_ => some k_ ≠ (u11 : Value).ownBlock ∧ some k_ ≠ (.slice Ao24 t185.length co24 : Value).ownBlock)) (by (with_reducible repeat (first | apply Kd.R_alloc | apply Kd.R_drewN | apply Kd.R_drew)); exact Kd.R_mono HO190.out (fun _ hk => ⟨⟨hk.2.1, hk.2.2⟩, hk.1⟩)) hg hat); have n3_ := Aside0.mk (hb); have n4_ := Aside0.mk (ho); clear HO_11; clear HO187; clear HO190; clear HB; clear HO_6; have HO_11 := n0_; have HO187 := n1_; have HO190 := n2_; have HB := n3_; have HO193 := n4_; clear n0_ n1_ n2_ n3_ n4_; clear ho hb hg hat))
                          go_roundg kj11
                          case measure => have := HK1.out; have := HJ7.out; have := HJ11.out; omega
                          case rel => exact ⟨(y191), (wrap64 (x7_1 + 1)), (by first | rfl | (simp; done) | (simp [*]; done)), H', ⟨by have := HK1.out; have := HJ7.out; have := HJ11.out; omega⟩, ⟨by (with_reducible repeat (first | apply Kd.R_alloc | apply Kd.R_drewN | apply Kd.R_drew)); exact Kd.R_mono HO193.out (fun _ hk => trivial)⟩, ⟨by repeat (first | (with_reducible first | exact HB.out | apply below_alloc | apply pw_below_drewN | apply below_drew1) | exact HB.out)⟩⟩
                        · rw [if_neg c20] at H
                          exact absurd H (by simp)
                      · rw [if_neg c19] at H
                        exact absurd H (by simp)
                    · rw [if_neg c16] at H
                      have c16b0 : decide (65536 ≤ (rd l0 x7_1)) = false := decide_eq_false c16
                      clear c16
                      by_cases c27 : x6_1.length + x11_11.length < 140737488355328
                      · rw [if_pos c27] at H
                        have LMc27 := Aside0.mk c27
                        clear c27
                        obtain ⟨y194, hy194⟩ : ∃ y_ : List Int, y_ = (x6_1 ++ x11_11) := ⟨_, rfl⟩
                        replace H : (redactorref03_Encode.l0 kj11 l0 a1 y194 (wrap64 (x7_1 + 1))) = some (r1, r2) := by first | (rw [hy194]; with_reducible exact H) | (have H2_ := (Option.bind_some _ _).symm.trans H; rw [hy194]; with_reducible exact H2_) | (have H2_ := (Option.bind_some _ _).symm.trans H; with_reducible exact H2_) | with_reducible exact H | (rw [hy194]; exact H) | exact H
                        have Ny194 := Aside0.mk hy194
                        clear hy194
                        have H' := Aside0.mk H
                        clear H
                        obtain ⟨Ao29, co29, eo29⟩ := Kd.R_slice HO_11.out
                        subst eo29
                        go_wp2_with (first | ((with_reducible refine gate_builtin (b := .append) (xs := #[.tmp 59, .tmp 60]) rfl ?_); at_builtin; refine Kd.R_append_rows (Kd.int .u8) (w0 := w) w.heap.size rfl (.tmp 59) (.tmp 60) 22 5 (.int .u8 0) 1 rfl Tryd.underlying22 info5 rfl (by decide) (by omega) u6 x6_1 x11_11 _ _ _ (fun k_ => some k_ ≠ (.slice Ao29 x11_11.length co29 : Value).ownBlock) (fun _ => False) rfl rfl ?aO ?aR (fun _ _ h => h) (fun _ h => h.elim) ?aF ?aB ?aS ?aL ?_; (case aR => repeat (first | exact (Kd.R_reads' HO_11.out).2.2 | (with_reducible refine Kd.C_alloc ?_ _) | (with_reducible refine Kd.C_drewN ?_ _) | (with_reducible refine Kd.C_drew ?_))); (case aB => exact (by repeat (first | (with_reducible first | exact HB.out | apply below_alloc | apply pw_below_drewN | apply below_drew1) | exact HB.out))); (case aF => exact (fun k_ hk => Kd.fresh' (Kd.R_lt (by (with_reducible repeat (first | apply Kd.R_alloc | apply Kd.R_drewN | apply Kd.R_drew)); exact HO_11.out)) k_ hk)); (case aO => exact (by (with_reducible repeat (first | apply Kd.R_alloc | apply Kd.R_drewN | apply Kd.R_drew)); exact HO_6.out)); (case aS => exact (below_size (by repeat (first | (with_reducible first | exact HB.out | apply below_alloc | apply pw_below_drewN | apply below_drew1) | exact HB.out)))); (case aL => have := LMc27.out; omega); intro v195 w28 ho hb hg hat; rw [← Ny194.out] at ho; have n0_ := Aside0.mk (Kd.R_after (ok := (fun _ => True)) (by (with_reducible repeat (first | apply Kd.R_alloc | apply Kd.R_drewN | apply Kd.R_drew)); exact Kd.R_mono HO_11.out (fun _ hk => ⟨trivial, hk⟩)) hg hat); have n1_ := Aside0.mk (hb); have n2_ := Aside0.mk (ho); clear HO_11; clear HB; clear HO_6; have HO_11 := n0_; have HB := n1_; have HO196 := n2_; clear n0_ n1_ n2_; clear ho hb hg hat))
                        go_roundg kj11
                        case measure => have := HK1.out; have := HJ7.out; have := HJ11.out; omega
                        case rel => exact ⟨(y194), (wrap64 (x7_1 + 1)), (by first | rfl | (simp; done) | (simp [*]; done)), H', ⟨by have := HK1.out; have := HJ7.out; have := HJ11.out; omega⟩, ⟨by (with_reducible repeat (first | apply Kd.R_alloc | apply Kd.R_drewN | apply Kd.R_drew)); exact Kd.R_mono HO196.out (fun _ hk => trivial)⟩, ⟨by repeat (first | (with_reducible first | exact HB.out | apply below_alloc | apply pw_below_drewN | apply below_drew1) | exact HB.out)⟩⟩
                      · rw [if_neg c27] at H
                        exact absurd H (by simp)
          · replace c6 := Bool.eq_false_iff.mpr c6
            subst c6
            have H1 : (some (([] : List Int), 10)) = some (r1, r2) := by rw [if_neg (show ¬ (false = true) by decide)] at H; exact H
            clear H
            have H := H1
            clear H1
            simp only [Option.some.injEq, Prod.mk.injEq] at H
            obtain ⟨rfl, rfl⟩ := H
            have p172 : 0 ≤ (x7_1 : Int) := of_decide_eq_true (by first | (with_reducible assumption) | assumption)
            have q172 : x7_1 < (l0.length : Int) := of_decide_eq_true (by first | (with_reducible assumption) | assumption)
            obtain ⟨ad172, e172, hx172_0⟩ := Kd.at_int HR0.out x7_1 p172 q172
            cases e172
            replace hx172_0 := (HB.out.cell (World.block_lt_of_cell? w _ hx172_0)).trans hx172_0
            replace p172 := eq_true p172
            replace q172 := eq_true q172
            go_wp2_with (first | ((with_reducible refine gate_callee (f := 16) rfl ?_); refine goesL_ (some 24) rfl rfl Tryd.func16 (by kernel_rfl) rfl #[.int .i32 (rd l0 x7_1)] rfl (by (try simp only [List.map_toArray, List.map_cons, List.map_nil]); first | done | rfl | (simp only [List.length_drop, List.length_take]; rfl)) ?_; (with_reducible refine (redactorref01_Right.calls (rd l0 x7_1) false _ A5.out).mono ?_); rintro e w' ⟨rfl, ⟨nd, rfl⟩⟩; refine ⟨_, rfl, ?_⟩))
            go_ret2
            exact ⟨_, by first | rfl | (simp [errW_none, errW_some] <;> rfl) | (simp [*, errW_none, errW_some] <;> rfl), by first | exact Kd.R_nil _ _ _ _ _ | exact Kd.N_nil _ _ _ _ _ | exact Kd.V_nil _ _ _ _ _ | exact Kd.Q_nil _ _ _ _ _ | exact Kd.S_nil _ _ _ _ _, by repeat (first | (with_reducible first | exact HB.out | apply below_alloc | apply pw_below_drewN | apply below_drew1) | exact HB.out)⟩
        · rw [if_neg c4] at H
          exact absurd H (by simp)
      · rw [if_neg c3] at H
        have c3b0 : decide (x7_1 < (l0.length : Int)) = false := decide_eq_false c3
        clear c3
        simp only [Option.some.injEq, Prod.mk.injEq] at H
        obtain ⟨rfl, rfl⟩ := H
        go_wp2
        go_ret2
        exact ⟨_, by first | rfl | (simp [errW_none, errW_some] <;> rfl) | (simp [*, errW_none, errW_some] <;> rfl), by (with_reducible repeat (first | apply Kd.R_alloc | apply Kd.R_drewN | apply Kd.R_drew)); exact HO_6.out, by repeat (first | (with_reducible first | exact HB.out | apply below_alloc | apply pw_below_drewN | apply below_drew1) | exact HB.out)⟩

end Go.Proofs.YtcofbakhhcgbfaaDoor.PZ
