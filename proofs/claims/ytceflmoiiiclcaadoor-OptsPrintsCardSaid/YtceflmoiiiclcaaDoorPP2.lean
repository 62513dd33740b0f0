/- Functions of the program told as plain functions, and that each call comes to what its function says. Conditions: each contract names its own. (Written by xprint.py, a program of this session, by way of the print of the kit; not trusted: Lean checks it.) -/
import Derived.Test.YtceflmoiiiclcaaDoorPP0
namespace Go.Proofs.YtceflmoiiiclcaaDoor.PX
end Go.Proofs.YtceflmoiiiclcaaDoor.PX
namespace Go.Proofs.YtceflmoiiiclcaaDoor.KX
end Go.Proofs.YtceflmoiiiclcaaDoor.KX
namespace Go.Proofs.YtceflmoiiiclcaaDoor.PP
open Go.RowKit Go.Proofs.YtceflmoiiiclcaaDoor.PX Go.Proofs.YtceflmoiiiclcaaDoor.KX Go.Proofs.YtceflmoiiiclcaaDoorW.PrintWords Go.Proofs.YtceflmoiiiclcaaDoorW.PrintLast Go.Proofs.YtceflmoiiiclcaaDoorW.PrintMore
attribute [local go_sem] max2_int min2_int max_two min_two max_three min_three max_four min_four   -- for this text's walks alone
set_option linter.unusedVariables false
set_option linter.unusedSimpArgs false

/-! ### redactorref19_Print: function 13 -/
mutual
def redactorref19_Print.j0 : Nat → List ByteArray → Bool → Bool → Bool → Bool → ByteArray → Int → ByteArray → List ByteArray → Option (List ByteArray)
  | 0, _, _, _, _, _, _, _, _, _ => none
  | k + 1, x3, x104000, x104001, x104002, x104003, x104004, x104005, x104006, x104007 => if x104001 = true then (if x3.length < 8796093022208 then (redactorref19_Print.j1 k (x3 ++ [(⟨#[45, 69]⟩ : ByteArray)]) x104000 x104001 x104002 x104003 x104004 x104005 x104006 x104007) else (none)) else (redactorref19_Print.j1 k x3 x104000 x104001 x104002 x104003 x104004 x104005 x104006 x104007)
def redactorref19_Print.j1 : Nat → List ByteArray → Bool → Bool → Bool → Bool → ByteArray → Int → ByteArray → List ByteArray → Option (List ByteArray)
  | 0, _, _, _, _, _, _, _, _, _ => none
  | k + 1, x3, x104000, x104001, x104002, x104003, x104004, x104005, x104006, x104007 => if x104002 = true then (redactorref19_Print.j2 k x3 (!x104003) x104000 x104001 x104002 x104003 x104004 x104005 x104006 x104007) else (redactorref19_Print.j2 k x3 false x104000 x104001 x104002 x104003 x104004 x104005 x104006 x104007)
def redactorref19_Print.j2 : Nat → List ByteArray → Bool → Bool → Bool → Bool → Bool → ByteArray → Int → ByteArray → List ByteArray → Option (List ByteArray)
  | 0, _, _, _, _, _, _, _, _, _, _ => none
  | k + 1, x3, x20, x104000, x104001, x104002, x104003, x104004, x104005, x104006, x104007 => if x20 = true then (if x3.length < 8796093022208 then (redactorref19_Print.j3 k (x3 ++ [(⟨#[45, 115]⟩ : ByteArray)]) x104000 x104001 x104002 x104003 x104004 x104005 x104006 x104007) else (none)) else (redactorref19_Print.j3 k x3 x104000 x104001 x104002 x104003 x104004 x104005 x104006 x104007)
def redactorref19_Print.j3 : Nat → List ByteArray → Bool → Bool → Bool → Bool → ByteArray → Int → ByteArray → List ByteArray → Option (List ByteArray)
  | 0, _, _, _, _, _, _, _, _, _ => none
  | k + 1, x3, x104000, x104001, x104002, x104003, x104004, x104005, x104006, x104007 => if x104003 = true then (if x3.length < 8796093022208 then (redactorref19_Print.j4 k (x3 ++ [(⟨#[45, 105]⟩ : ByteArray)]) x104000 x104001 x104002 x104003 x104004 x104005 x104006 x104007) else (none)) else (redactorref19_Print.j4 k x3 x104000 x104001 x104002 x104003 x104004 x104005 x104006 x104007)
def redactorref19_Print.j4 : Nat → List ByteArray → Bool → Bool → Bool → Bool → ByteArray → Int → ByteArray → List ByteArray → Option (List ByteArray)
  | 0, _, _, _, _, _, _, _, _, _ => none
  | k + 1, x3, x104000, x104001, x104002, x104003, x104004, x104005, x104006, x104007 => if x104005 = 2 then ((some (([(⟨#[45, 99]⟩ : ByteArray), (⟨#[117, 116, 102, 45, 49, 54]⟩ : ByteArray)] : List ByteArray) : List ByteArray)).bind fun y116 => (if x3.length + y116.length < 8796093022208 then (redactorref19_Print.j5 k (x3 ++ y116) x104000 x104001 x104002 x104003 x104004 x104005 x104006 x104007) else (none))) else (redactorref19_Print.j5 k x3 x104000 x104001 x104002 x104003 x104004 x104005 x104006 x104007)
def redactorref19_Print.j5 : Nat → List ByteArray → Bool → Bool → Bool → Bool → ByteArray → Int → ByteArray → List ByteArray → Option (List ByteArray)
  | 0, _, _, _, _, _, _, _, _, _ => none
  | k + 1, x3, x104000, x104001, x104002, x104003, x104004, x104005, x104006, x104007 => if x104005 = 3 then ((some (([(⟨#[45, 99]⟩ : ByteArray), (⟨#[108, 97, 116, 105, 110, 49]⟩ : ByteArray)] : List ByteArray) : List ByteArray)).bind fun y122 => (if x3.length + y122.length < 8796093022208 then ((some (x3 ++ y122 : List ByteArray)).bind fun y125 => (if x104006.toList = ([] : List UInt8) then ((some (([(⟨#[45, 101]⟩ : ByteArray), x104004, (⟨#[45, 45]⟩ : ByteArray)] : List ByteArray) : List ByteArray)).bind fun y128 => (if y125.length + y128.length < 8796093022208 then ((some (y125 ++ y128 : List ByteArray)).bind fun y131 => (if y131.length + x104007.length < 8796093022208 then (some (y131 ++ x104007)) else (none))) else (none))) else ((some (([(⟨#[45, 76]⟩ : ByteArray), x104006] : List ByteArray) : List ByteArray)).bind fun y137 => (if y125.length + y137.length < 8796093022208 then ((some (y125 ++ y137 : List ByteArray)).bind fun y140 => ((some (([(⟨#[45, 101]⟩ : ByteArray), x104004, (⟨#[45, 45]⟩ : ByteArray)] : List ByteArray) : List ByteArray)).bind fun y143 => (if y140.length + y143.length < 8796093022208 then ((some (y140 ++ y143 : List ByteArray)).bind fun y146 => (if y146.length + x104007.length < 8796093022208 then (some (y146 ++ x104007)) else (none))) else (none)))) else (none))))) else (none))) else (if x104006.toList = ([] : List UInt8) then ((some (([(⟨#[45, 101]⟩ : ByteArray), x104004, (⟨#[45, 45]⟩ : ByteArray)] : List ByteArray) : List ByteArray)).bind fun y152 => (if x3.length + y152.length < 8796093022208 then ((some (x3 ++ y152 : List ByteArray)).bind fun y155 => (if y155.length + x104007.length < 8796093022208 then (some (y155 ++ x104007)) else (none))) else (none))) else ((some (([(⟨#[45, 76]⟩ : ByteArray), x104006] : List ByteArray) : List ByteArray)).bind fun y161 => (if x3.length + y161.length < 8796093022208 then ((some (x3 ++ y161 : List ByteArray)).bind fun y164 => ((some (([(⟨#[45, 101]⟩ : ByteArray), x104004, (⟨#[45, 45]⟩ : ByteArray)] : List ByteArray) : List ByteArray)).bind fun y167 => (if y164.length + y167.length < 8796093022208 then ((some (y164 ++ y167 : List ByteArray)).bind fun y170 => (if y170.length + x104007.length < 8796093022208 then (some (y170 ++ x104007)) else (none))) else (none)))) else (none))))
end
def redactorref19_Print.f (k : Nat) (a0_0 : Bool) (a0_1 : Bool) (a0_2 : Bool) (a0_3 : Bool) (a0_4 : ByteArray) (a0_5 : Int) (a0_6 : ByteArray) (l0_7 : List ByteArray) : Option (List ByteArray) := if a0_0 = true then (if ([] : List ByteArray).length < 8796093022208 then (redactorref19_Print.j0 k (([] : List ByteArray) ++ [(⟨#[45, 110]⟩ : ByteArray)]) a0_0 a0_1 a0_2 a0_3 a0_4 a0_5 a0_6 l0_7) else (none)) else (redactorref19_Print.j0 k ([] : List ByteArray) a0_0 a0_1 a0_2 a0_3 a0_4 a0_5 a0_6 l0_7)
theorem redactorref19_Print.mono_l : ∀ k, (∀ y0 y1 y2 y3 y4 y5 y6 y7 y8, LeO (redactorref19_Print.j0 k y0 y1 y2 y3 y4 y5 y6 y7 y8) (redactorref19_Print.j0 (k + 1) y0 y1 y2 y3 y4 y5 y6 y7 y8)) ∧ (∀ y0 y1 y2 y3 y4 y5 y6 y7 y8, LeO (redactorref19_Print.j1 k y0 y1 y2 y3 y4 y5 y6 y7 y8) (redactorref19_Print.j1 (k + 1) y0 y1 y2 y3 y4 y5 y6 y7 y8)) ∧ (∀ y0 y1 y2 y3 y4 y5 y6 y7 y8 y9, LeO (redactorref19_Print.j2 k y0 y1 y2 y3 y4 y5 y6 y7 y8 y9) (redactorref19_Print.j2 (k + 1) y0 y1 y2 y3 y4 y5 y6 y7 y8 y9)) ∧ (∀ y0 y1 y2 y3 y4 y5 y6 y7 y8, LeO (redactorref19_Print.j3 k y0 y1 y2 y3 y4 y5 y6 y7 y8) (redactorref19_Print.j3 (k + 1) y0 y1 y2 y3 y4 y5 y6 y7 y8)) ∧ (∀ y0 y1 y2 y3 y4 y5 y6 y7 y8, LeO (redactorref19_Print.j4 k y0 y1 y2 y3 y4 y5 y6 y7 y8) (redactorref19_Print.j4 (k + 1) y0 y1 y2 y3 y4 y5 y6 y7 y8)) ∧ (∀ y0 y1 y2 y3 y4 y5 y6 y7 y8, LeO (redactorref19_Print.j5 k y0 y1 y2 y3 y4 y5 y6 y7 y8) (redactorref19_Print.j5 (k + 1) y0 y1 y2 y3 y4 y5 y6 y7 y8))
  | 0 => ⟨fun _ _ _ _ _ _ _ _ _ r h => by simp [redactorref19_Print.j0] at h, fun _ _ _ _ _ _ _ _ _ r h => by simp [redactorref19_Print.j1] at h, fun _ _ _ _ _ _ _ _ _ _ r h => by simp [redactorref19_Print.j2] at h, fun _ _ _ _ _ _ _ _ _ r h => by simp [redactorref19_Print.j3] at h, fun _ _ _ _ _ _ _ _ _ r h => by simp [redactorref19_Print.j4] at h, fun _ _ _ _ _ _ _ _ _ r h => by simp [redactorref19_Print.j5] at h⟩
  | k + 1 => by
    obtain ⟨ih0, ih1, ih2, ih3, ih4, ih5⟩ := redactorref19_Print.mono_l k
    refine ⟨?_, ?_, ?_, ?_, ?_, ?_⟩
    · intro y0 y1 y2 y3 y4 y5 y6 y7 y8
      unfold redactorref19_Print.j0
      repeat' first
      | (with_reducible exact ih0 _ _ _ _ _ _ _ _ _)
      | (with_reducible exact ih1 _ _ _ _ _ _ _ _ _)
      | (with_reducible exact ih2 _ _ _ _ _ _ _ _ _ _)
      | (with_reducible exact ih3 _ _ _ _ _ _ _ _ _)
      | (with_reducible exact ih4 _ _ _ _ _ _ _ _ _)
      | (with_reducible exact ih5 _ _ _ _ _ _ _ _ _)
      | (with_reducible exact LeO.refl _)
      | (with_reducible exact LeO.none _)
      | (with_reducible refine LeO.ite ?_ ?_)
      | (with_reducible refine LeO.bind ?_ (fun _ => ?_))
      | exact ih0 _ _ _ _ _ _ _ _ _
      | exact ih1 _ _ _ _ _ _ _ _ _
      | exact ih2 _ _ _ _ _ _ _ _ _ _
      | exact ih3 _ _ _ _ _ _ _ _ _
      | exact ih4 _ _ _ _ _ _ _ _ _
      | exact ih5 _ _ _ _ _ _ _ _ _
      | exact LeO.none _
      | refine LeO.ite ?_ ?_
      | refine LeO.bind ?_ (fun _ => ?_)
    · intro y0 y1 y2 y3 y4 y5 y6 y7 y8
      unfold redactorref19_Print.j1
      repeat' first
      | (with_reducible exact ih0 _ _ _ _ _ _ _ _ _)
      | (with_reducible exact ih1 _ _ _ _ _ _ _ _ _)
      | (with_reducible exact ih2 _ _ _ _ _ _ _ _ _ _)
      | (with_reducible exact ih3 _ _ _ _ _ _ _ _ _)
      | (with_reducible exact ih4 _ _ _ _ _ _ _ _ _)
      | (with_reducible exact ih5 _ _ _ _ _ _ _ _ _)
      | (with_reducible exact LeO.refl _)
      | (with_reducible exact LeO.none _)
      | (with_reducible refine LeO.ite ?_ ?_)
      | (with_reducible refine LeO.bind ?_ (fun _ => ?_))
      | exact ih0 _ _ _ _ _ _ _ _ _
      | exact ih1 _ _ _ _ _ _ _ _ _
      | exact ih2 _ _ _ _ _ _ _ _ _ _
      | exact ih3 _ _ _ _ _ _ _ _ _
      | exact ih4 _ _ _ _ _ _ _ _ _
      | exact ih5 _ _ _ _ _ _ _ _ _
      | exact LeO.none _
      | refine LeO.ite ?_ ?_
      | refine LeO.bind ?_ (fun _ => ?_)
    · intro y0 y1 y2 y3 y4 y5 y6 y7 y8 y9
      unfold redactorref19_Print.j2
      repeat' first
      | (with_reducible exact ih0 _ _ _ _ _ _ _ _ _)
      | (with_reducible exact ih1 _ _ _ _ _ _ _ _ _)
      | (with_reducible exact ih2 _ _ _ _ _ _ _ _ _ _)
      | (with_reducible exact ih3 _ _ _ _ _ _ _ _ _)
      | (with_reducible exact ih4 _ _ _ _ _ _ _ _ _)
      | (with_reducible exact ih5 _ _ _ _ _ _ _ _ _)
      | (with_reducible exact LeO.refl _)
      | (with_reducible exact LeO.none _)
      | (with_reducible refine LeO.ite ?_ ?_)
      | (with_reducible refine LeO.bind ?_ (fun _ => ?_))
      | exact ih0 _ _ _ _ _ _ _ _ _
      | exact ih1 _ _ _ _ _ _ _ _ _
      | exact ih2 _ _ _ _ _ _ _ _ _ _
      | exact ih3 _ _ _ _ _ _ _ _ _
      | exact ih4 _ _ _ _ _ _ _ _ _
      | exact ih5 _ _ _ _ _ _ _ _ _
      | exact LeO.none _
      | refine LeO.ite ?_ ?_
      | refine LeO.bind ?_ (fun _ => ?_)
    · intro y0 y1 y2 y3 y4 y5 y6 y7 y8
      unfold redactorref19_Print.j3
      repeat' first
      | (with_reducible exact ih0 _ _ _ _ _ _ _ _ _)
      | (with_reducible exact ih1 _ _ _ _ _ _ _ _ _)
      | (with_reducible exact ih2 _ _ _ _ _ _ _ _ _ _)
      | (with_reducible exact ih3 _ _ _ _ _ _ _ _ _)
      | (with_reducible exact ih4 _ _ _ _ _ _ _ _ _)
      | (with_reducible exact ih5 _ _ _ _ _ _ _ _ _)
      | (with_reducible exact LeO.refl _)
      | (with_reducible exact LeO.none _)
      | (with_reducible refine LeO.ite ?_ ?_)
      | (with_reducible refine LeO.bind ?_ (fun _ => ?_))
      | exact ih0 _ _ _ _ _ _ _ _ _
      | exact ih1 _ _ _ _ _ _ _ _ _
      | exact ih2 _ _ _ _ _ _ _ _ _ _
      | exact ih3 _ _ _ _ _ _ _ _ _
      | exact ih4 _ _ _ _ _ _ _ _ _
      | exact ih5 _ _ _ _ _ _ _ _ _
      | exact LeO.none _
      | refine LeO.ite ?_ ?_
      | refine LeO.bind ?_ (fun _ => ?_)
    · intro y0 y1 y2 y3 y4 y5 y6 y7 y8
      unfold redactorref19_Print.j4
      repeat' first
      | (with_reducible exact ih0 _ _ _ _ _ _ _ _ _)
      | (with_reducible exact ih1 _ _ _ _ _ _ _ _ _)
      | (with_reducible exact ih2 _ _ _ _ _ _ _ _ _ _)
      | (with_reducible exact ih3 _ _ _ _ _ _ _ _ _)
      | (with_reducible exact ih4 _ _ _ _ _ _ _ _ _)
      | (with_reducible exact ih5 _ _ _ _ _ _ _ _ _)
      | (with_reducible exact LeO.refl _)
      | (with_reducible exact LeO.none _)
      | (with_reducible refine LeO.ite ?_ ?_)
      | (with_reducible refine LeO.bind ?_ (fun _ => ?_))
      | exact ih0 _ _ _ _ _ _ _ _ _
      | exact ih1 _ _ _ _ _ _ _ _ _
      | exact ih2 _ _ _ _ _ _ _ _ _ _
      | exact ih3 _ _ _ _ _ _ _ _ _
      | exact ih4 _ _ _ _ _ _ _ _ _
      | exact ih5 _ _ _ _ _ _ _ _ _
      | exact LeO.none _
      | refine LeO.ite ?_ ?_
      | refine LeO.bind ?_ (fun _ => ?_)
    · intro y0 y1 y2 y3 y4 y5 y6 y7 y8
      unfold redactorref19_Print.j5
      repeat' first
      | (with_reducible exact ih0 _ _ _ _ _ _ _ _ _)
      | (with_reducible exact ih1 _ _ _ _ _ _ _ _ _)
      | (with_reducible exact ih2 _ _ _ _ _ _ _ _ _ _)
      | (with_reducible exact ih3 _ _ _ _ _ _ _ _ _)
      | (with_reducible exact ih4 _ _ _ _ _ _ _ _ _)
      | (with_reducible exact ih5 _ _ _ _ _ _ _ _ _)
      | (with_reducible exact LeO.refl _)
      | (with_reducible exact LeO.none _)
      | (with_reducible refine LeO.ite ?_ ?_)
      | (with_reducible refine LeO.bind ?_ (fun _ => ?_))
      | exact ih0 _ _ _ _ _ _ _ _ _
      | exact ih1 _ _ _ _ _ _ _ _ _
      | exact ih2 _ _ _ _ _ _ _ _ _ _
      | exact ih3 _ _ _ _ _ _ _ _ _
      | exact ih4 _ _ _ _ _ _ _ _ _
      | exact ih5 _ _ _ _ _ _ _ _ _
      | exact LeO.none _
      | refine LeO.ite ?_ ?_
      | refine LeO.bind ?_ (fun _ => ?_)
theorem redactorref19_Print.mono : ∀ a0 a1 a2 a3 a4 a5 a6 a7 k, LeO (redactorref19_Print.f k a0 a1 a2 a3 a4 a5 a6 a7) (redactorref19_Print.f (k + 1) a0 a1 a2 a3 a4 a5 a6 a7) := by
  intro a0 a1 a2 a3 a4 a5 a6 a7 k
  obtain ⟨ih0, ih1, ih2, ih3, ih4, ih5⟩ := redactorref19_Print.mono_l k
  unfold redactorref19_Print.f
  repeat' first
      | (with_reducible exact ih0 _ _ _ _ _ _ _ _ _)
      | (with_reducible exact ih1 _ _ _ _ _ _ _ _ _)
      | (with_reducible exact ih2 _ _ _ _ _ _ _ _ _ _)
      | (with_reducible exact ih3 _ _ _ _ _ _ _ _ _)
      | (with_reducible exact ih4 _ _ _ _ _ _ _ _ _)
      | (with_reducible exact ih5 _ _ _ _ _ _ _ _ _)
      | (with_reducible exact LeO.refl _)
      | (with_reducible exact LeO.none _)
      | (with_reducible refine LeO.ite ?_ ?_)
      | (with_reducible refine LeO.bind ?_ (fun _ => ?_))
      | exact ih0 _ _ _ _ _ _ _ _ _
      | exact ih1 _ _ _ _ _ _ _ _ _
      | exact ih2 _ _ _ _ _ _ _ _ _ _
      | exact ih3 _ _ _ _ _ _ _ _ _
      | exact ih4 _ _ _ _ _ _ _ _ _
      | exact ih5 _ _ _ _ _ _ _ _ _
      | exact LeO.none _
      | refine LeO.ite ?_ ?_
      | refine LeO.bind ?_ (fun _ => ?_)
set_option maxHeartbeats 8000000 in
set_option maxRecDepth 100000 in
theorem redactorref19_Print.calls (k : Nat) (a0_0 : Bool) (a0_1 : Bool) (a0_2 : Bool) (a0_3 : Bool) (a0_4 : ByteArray) (a0_5 : Int) (a0_6 : ByteArray) (A0_7 : Option Addr) (c0_7 : Nat) (l0_7 : List ByteArray) (r : List ByteArray) (w : World) (hr0_7 : Kd.C Kd.string w A0_7 l0_7.length l0_7) (hc0_7 : l0_7.length ≤ c0_7) (h : redactorref19_Print.f k a0_0 a0_1 a0_2 a0_3 a0_4 a0_5 a0_6 l0_7 = some r) :
    Calls Tryd.prog 13 #[.agg #[.bool a0_0, .bool a0_1, .bool a0_2, .bool a0_3, .string a0_4, .int .u8 a0_5, .string a0_6, .slice A0_7 l0_7.length c0_7]] w fun e w' => ∃ v0_ : Value, e = .returned (v0_) ∧ Kd.R Kd.string 9 w' w.heap.size (fun _ => True) v0_ r ∧ Below w.heap.size w w' := by
  have hu24 := Tryd.underlying24
  have HR0_7 := Aside0.mk hr0_7
  have HC0_7 := Aside0.mk hc0_7
  clear hr0_7 hc0_7
  have HB := Aside0.mk (Below.refl w.heap.size w)
  have H : (if a0_0 = true then (if ([] : List ByteArray).length < 8796093022208 then (redactorref19_Print.j0 k (([] : List ByteArray) ++ [(⟨#[45, 110]⟩ : ByteArray)]) a0_0 a0_1 a0_2 a0_3 a0_4 a0_5 a0_6 l0_7) else (none)) else (redactorref19_Print.j0 k ([] : List ByteArray) a0_0 a0_1 a0_2 a0_3 a0_4 a0_5 a0_6 l0_7)) = some r := h
  clear h
  have HC2 := Aside0.mk H
  clear H
  go_enter Tryd.func13, Tryd.ntmps13
  go_upto_if 5 with (first | ((with_reducible refine gate_dst (N := 1) rfl ?_); refine box_event ?hg (N := 1) ?hd (cs := #[.bool a0_0, .bool a0_1, .bool a0_2, .bool a0_3, .string a0_4, .int .u8 a0_5, .string a0_6, .slice A0_7 l0_7.length c0_7]) (t := 24) ?hr ?_; (case hd => rfl); (case hg => rfl); (case hr => first | (go_simp; done) | (go_simp; rfl)); intro gb103 hg w3 hbox hb; have n0_ := Aside0.mk (below_step (by repeat (first | (with_reducible first | exact HB.out | apply below_alloc | apply pw_below_drewN | apply below_drew1) | exact HB.out)) hb); have n1_ := Aside0.mk (hbox); have n2_ := Aside0.mk ((by rw [hg]; exact (below_size (by repeat (first | (with_reducible first | exact HB.out | apply below_alloc | apply pw_below_drewN | apply below_drew1) | exact HB.out))) : w.heap.size ≤ gb103)); have n3_ := Aside0.mk ((by rw [hg]; exact (below_size (by repeat (first | (with_reducible first | exact HB.out | apply below_alloc | apply pw_below_drewN | apply below_drew1) | exact HB.out))) : w.heap.size ≤ gb103)); clear HB; have HB := n0_; have BK103 := n1_; have GW103 := n2_; have GE103 := n3_; clear n0_ n1_ n2_ n3_; clear hb hbox hg; have hcz4_0 : w3.cell? ⟨gb103, 0, none⟩ = some (.bool a0_0) := (blk_cell BK103.out 0).trans rfl; have hcz4_1 : w3.cell? ⟨gb103, 1, none⟩ = some (.bool a0_1) := (blk_cell BK103.out 1).trans rfl; have hcz4_2 : w3.cell? ⟨gb103, 2, none⟩ = some (.bool a0_2) := (blk_cell BK103.out 2).trans rfl; have hcz4_3 : w3.cell? ⟨gb103, 3, none⟩ = some (.bool a0_3) := (blk_cell BK103.out 3).trans rfl; have hcz4_4 : w3.cell? ⟨gb103, 4, none⟩ = some (.string a0_4) := (blk_cell BK103.out 4).trans rfl; have hcz4_5 : w3.cell? ⟨gb103, 5, none⟩ = some (.int .u8 a0_5) := (blk_cell BK103.out 5).trans rfl; have hcz4_6 : w3.cell? ⟨gb103, 6, none⟩ = some (.string a0_6) := (blk_cell BK103.out 6).trans rfl; have hcz4_7 : w3.cell? ⟨gb103, 7, none⟩ = some (.slice A0_7 l0_7.length c0_7) := (blk_cell BK103.out 7).trans rfl; have hfz4_0 := blk_frozen BK103.out 0; have hfz4_1 := blk_frozen BK103.out 1; have hfz4_2 := blk_frozen BK103.out 2; have hfz4_3 := blk_frozen BK103.out 3; have hfz4_4 := blk_frozen BK103.out 4; have hfz4_5 := blk_frozen BK103.out 5; have hfz4_6 := blk_frozen BK103.out 6; have hfz4_7 := blk_frozen BK103.out 7))
  (try simp only [Act.put, List.setIfInBounds_toArray, List.set_cons_zero, List.set_cons_succ])
  go_cut [3] (fun v3 wc => ∃ (kq : Nat) (x3_1 : List ByteArray), Aside0 (redactorref19_Print.j0 kq x3_1 a0_0 a0_1 a0_2 a0_3 a0_4 a0_5 a0_6 l0_7 = some r) ∧ Aside0 (kq ≤ k) ∧ Aside0 (Kd.R Kd.string 9 wc w.heap.size (fun _ => True) v3 x3_1) ∧ Aside0 (wc.heap[gb103]? = some (.cells #[.bool a0_0, .bool a0_1, .bool a0_2, .bool a0_3, .string a0_4, .int .u8 a0_5, .string a0_6, (.slice A0_7 l0_7.length c0_7)] 24 (0, 0))) ∧ Aside0 (Below w.heap.size w wc))
  case first =>
    have H := HC2.out
    clear HC2
    by_cases c5 : a0_0 = true
    · subst c5
      have H1 : (if ([] : List ByteArray).length < 8796093022208 then (redactorref19_Print.j0 k (([] : List ByteArray) ++ [(⟨#[45, 110]⟩ : ByteArray)]) true a0_1 a0_2 a0_3 a0_4 a0_5 a0_6 l0_7) else (none)) = some r := by rw [if_pos rfl] at H; exact H
      clear H
      have H := H1
      clear H1
      by_cases c6 : ([] : List ByteArray).length < 8796093022208
      · rw [if_pos c6] at H
        have LMc6 := Aside0.mk c6
        clear c6
        obtain ⟨y104, hy104⟩ : ∃ y_ : List ByteArray, y_ = (([] : List ByteArray) ++ [(⟨#[45, 110]⟩ : ByteArray)]) := ⟨_, rfl⟩
        replace H : (redactorref19_Print.j0 k y104 true a0_1 a0_2 a0_3 a0_4 a0_5 a0_6 l0_7) = some r := by first | (rw [hy104]; with_reducible exact H) | (have H2_ := (Option.bind_some _ _).symm.trans H; rw [hy104]; with_reducible exact H2_) | (have H2_ := (Option.bind_some _ _).symm.trans H; with_reducible exact H2_) | with_reducible exact H | (rw [hy104]; exact H) | exact H
        have Ny104 := Aside0.mk hy104
        clear hy104
        have H' := Aside0.mk H
        clear H
        go_wp2_with (first | ((with_reducible refine gate_builtin (b := .append) (xs := #[.tmp 6, .tmp 7]) rfl ?_); at_builtin; refine Kd.R_append Kd.string (w0 := w) w.heap.size rfl (.tmp 6) (.tmp 7) 22 9 (.string ⟨#[]⟩) 16 rfl Tryd.underlying22 info9 rfl (by decide) (by omega) (.slice none 0 0) ([] : List ByteArray) (⟨#[45, 110]⟩ : ByteArray) [.string (⟨#[45, 110]⟩ : ByteArray)] (fun _ => True) (fun _ => False) rfl rfl ?aP (fun _ hk => hk.elim) ?aF ?aO ?aB ?aS ?aL ?_; (case aP => exact rfl); (case aB => exact (by repeat (first | (with_reducible first | exact HB.out | apply below_alloc | apply pw_below_drewN | apply below_drew1 | refine below_set ?_ GE103.out) | exact HB.out))); (case aF => exact (fun _ _ => trivial)); (case aO => exact ((Kd.R_nil _ _ _ _ (fun _ => True)))); (case aS => exact (below_size (by repeat (first | (with_reducible first | exact HB.out | apply below_alloc | apply pw_below_drewN | apply below_drew1 | refine below_set ?_ GE103.out) | exact HB.out)))); (case aL => have := LMc6.out; omega); intro v105 w7 ho hb hg hat; rw [← Ny104.out] at ho; have n0_ := Aside0.mk (blk_grown (g := gb103) (o := .cells #[.bool true, .bool a0_1, .bool a0_2, .bool a0_3, .string a0_4, .int .u8 a0_5, .string a0_6, .slice A0_7 l0_7.length c0_7] 24 (0, 0)) (by (with_reducible repeat (first | refine blk_drewN ?_ _ | refine blk_drew ?_ | refine blk_alloc ?_ _)); exact BK103.out) hg (by simp [Value.ownBlock])); have n1_ := Aside0.mk (hb); have n2_ := Aside0.mk (ho); clear BK103; clear HB; have BK103 := n0_; have HB := n1_; have HO106 := n2_; clear n0_ n1_ n2_; clear ho hb hg hat))
        go_meet
        case rel => exact ⟨_, (y104), H', ⟨by first | omega | exact Nat.le_refl _⟩, ⟨by (with_reducible repeat (first | apply Kd.R_alloc | apply Kd.R_drewN | apply Kd.R_drew)); exact HO106.out⟩, ⟨by (with_reducible repeat (first | refine blk_drewN ?_ _ | refine blk_drew ?_ | refine blk_alloc ?_ _)); exact BK103.out⟩, ⟨by repeat (first | (with_reducible first | exact HB.out | apply below_alloc | apply pw_below_drewN | apply below_drew1 | refine below_set ?_ GE103.out) | exact HB.out)⟩⟩
      · rw [if_neg c6] at H
        exact absurd H (by simp)
    · replace c5 := Bool.eq_false_iff.mpr c5
      subst c5
      have H1 : (redactorref19_Print.j0 k ([] : List ByteArray) false a0_1 a0_2 a0_3 a0_4 a0_5 a0_6 l0_7) = some r := by rw [if_neg (show ¬ (false = true) by decide)] at H; exact H
      clear H
      have H := H1
      clear H1
      have H' := Aside0.mk H
      clear H
      go_wp2
      go_meet
      case rel => exact ⟨_, (([] : List ByteArray)), H', ⟨by first | omega | exact Nat.le_refl _⟩, ⟨by first | exact Kd.R_nil _ _ _ _ _ | exact Kd.N_nil _ _ _ _ _ | exact Kd.V_nil _ _ _ _ _ | exact Kd.Q_nil _ _ _ _ _ | exact Kd.S_nil _ _ _ _ _⟩, ⟨by (with_reducible repeat (first | refine blk_drewN ?_ _ | refine blk_drew ?_ | refine blk_alloc ?_ _)); exact BK103.out⟩, ⟨by repeat (first | (with_reducible first | exact HB.out | apply below_alloc | apply pw_below_drewN | apply below_drew1 | refine below_set ?_ GE103.out) | exact HB.out)⟩⟩
  case rest =>
    clear HC2
    try clear c1
    try clear p2
    try clear c5
    try clear c6
    try clear hcz4_0
    try clear hcz4_1
    try clear hcz4_2
    try clear hcz4_3
    try clear hcz4_4
    try clear hcz4_5
    try clear hcz4_6
    try clear hcz4_7
    try clear hfz4_0
    try clear hfz4_1
    try clear hfz4_2
    try clear hfz4_3
    try clear hfz4_4
    try clear hfz4_5
    try clear hfz4_6
    try clear hfz4_7
    obtain ⟨kq, x3_1, HA, HJ1, HO_3, BK103, HB⟩ := hcut
    cases kq with
    | zero => exact absurd HA.out (by simp [redactorref19_Print.j0])
    | succ kj1 =>
      have H := HA.out
      clear HA
      simp only [redactorref19_Print.j0] at H
      have HC8 := Aside0.mk H
      clear H
      have hcz9_0 : wc.cell? ⟨gb103, 0, none⟩ = some (.bool a0_0) := (blk_cell BK103.out 0).trans rfl
      have hcz9_1 : wc.cell? ⟨gb103, 1, none⟩ = some (.bool a0_1) := (blk_cell BK103.out 1).trans rfl
      have hcz9_2 : wc.cell? ⟨gb103, 2, none⟩ = some (.bool a0_2) := (blk_cell BK103.out 2).trans rfl
      have hcz9_3 : wc.cell? ⟨gb103, 3, none⟩ = some (.bool a0_3) := (blk_cell BK103.out 3).trans rfl
      have hcz9_4 : wc.cell? ⟨gb103, 4, none⟩ = some (.string a0_4) := (blk_cell BK103.out 4).trans rfl
      have hcz9_5 : wc.cell? ⟨gb103, 5, none⟩ = some (.int .u8 a0_5) := (blk_cell BK103.out 5).trans rfl
      have hcz9_6 : wc.cell? ⟨gb103, 6, none⟩ = some (.string a0_6) := (blk_cell BK103.out 6).trans rfl
      have hcz9_7 : wc.cell? ⟨gb103, 7, none⟩ = some (.slice A0_7 l0_7.length c0_7) := (blk_cell BK103.out 7).trans rfl
      have hfz9_0 := blk_frozen BK103.out 0
      have hfz9_1 := blk_frozen BK103.out 1
      have hfz9_2 := blk_frozen BK103.out 2
      have hfz9_3 := blk_frozen BK103.out 3
      have hfz9_4 := blk_frozen BK103.out 4
      have hfz9_5 := blk_frozen BK103.out 5
      have hfz9_6 := blk_frozen BK103.out 6
      have hfz9_7 := blk_frozen BK103.out 7
      go_upto_if 10 with (fail)
      go_cut [3] (fun v3 wc => ∃ (kq : Nat) (x3_7 : List ByteArray), Aside0 (redactorref19_Print.j1 kq x3_7 a0_0 a0_1 a0_2 a0_3 a0_4 a0_5 a0_6 l0_7 = some r) ∧ Aside0 (kq ≤ kj1) ∧ Aside0 (Kd.R Kd.string 9 wc w.heap.size (fun _ => True) v3 x3_7) ∧ Aside0 (wc.heap[gb103]? = some (.cells #[.bool a0_0, .bool a0_1, .bool a0_2, .bool a0_3, .string a0_4, .int .u8 a0_5, .string a0_6, (.slice A0_7 l0_7.length c0_7)] 24 (0, 0))) ∧ Aside0 (Below w.heap.size w wc))
      case first =>
        have H := HC8.out
        clear HC8
        by_cases c10 : a0_1 = true
        · subst c10
          have H1 : (if x3_1.length < 8796093022208 then (redactorref19_Print.j1 kj1 (x3_1 ++ [(⟨#[45, 69]⟩ : ByteArray)]) a0_0 true a0_2 a0_3 a0_4 a0_5 a0_6 l0_7) else (none)) = some r := by rw [if_pos rfl] at H; exact H
          clear H
          have H := H1
          clear H1
          by_cases c11 : x3_1.length < 8796093022208
          · rw [if_pos c11] at H
            have LMc11 := Aside0.mk c11
            clear c11
            obtain ⟨y107, hy107⟩ : ∃ y_ : List ByteArray, y_ = (x3_1 ++ [(⟨#[45, 69]⟩ : ByteArray)]) := ⟨_, rfl⟩
            replace H : (redactorref19_Print.j1 kj1 y107 a0_0 true a0_2 a0_3 a0_4 a0_5 a0_6 l0_7) = some r := by first | (rw [hy107]; with_reducible exact H) | (have H2_ := (Option.bind_some _ _).symm.trans H; rw [hy107]; with_reducible exact H2_) | (have H2_ := (Option.bind_some _ _).symm.trans H; with_reducible exact H2_) | with_reducible exact H | (rw [hy107]; exact H) | exact H
            have Ny107 := Aside0.mk hy107
            clear hy107
            have H' := Aside0.mk H
            clear H
            go_wp2_with (first | ((with_reducible refine gate_builtin (b := .append) (xs := #[.tmp 11, .tmp 12]) rfl ?_); at_builtin; refine Kd.R_append Kd.string (w0 := w) w.heap.size rfl (.tmp 11) (.tmp 12) 22 9 (.string ⟨#[]⟩) 16 rfl Tryd.underlying22 info9 rfl (by decide) (by omega) u3 x3_1 (⟨#[45, 69]⟩ : ByteArray) [.string (⟨#[45, 69]⟩ : ByteArray)] (fun _ => True) (fun _ => False) rfl rfl ?aP (fun _ hk => hk.elim) ?aF ?aO ?aB ?aS ?aL ?_; (case aP => exact rfl); (case aB => exact (by repeat (first | (with_reducible first | exact HB.out | apply below_alloc | apply pw_below_drewN | apply below_drew1 | refine below_set ?_ GE103.out) | exact HB.out))); (case aF => exact (fun _ _ => trivial)); (case aO => exact (by (with_reducible repeat (first | apply Kd.R_alloc | apply Kd.R_drewN | apply Kd.R_drew)); exact HO_3.out)); (case aS => exact (below_size (by repeat (first | (with_reducible first | exact HB.out | apply below_alloc | apply pw_below_drewN | apply below_drew1 | refine below_set ?_ GE103.out) | exact HB.out)))); (case aL => have := LMc11.out; omega); intro v108 w12 ho hb hg hat; rw [← Ny107.out] at ho; have n0_ := Aside0.mk (blk_grown (g := gb103) (o := .cells #[.bool a0_0, .bool true, .bool a0_2, .bool a0_3, .string a0_4, .int .u8 a0_5, .string a0_6, .slice A0_7 l0_7.length c0_7] 24 (0, 0)) (by (with_reducible repeat (first | refine blk_drewN ?_ _ | refine blk_drew ?_ | refine blk_alloc ?_ _)); exact BK103.out) hg (Kd.R_ne HO_3.out BK103.out (by decide))); have n1_ := Aside0.mk (hb); have n2_ := Aside0.mk (ho); clear BK103; clear HB; clear HO_3; have BK103 := n0_; have HB := n1_; have HO109 := n2_; clear n0_ n1_ n2_; clear ho hb hg hat))
            go_meet
            case rel => exact ⟨_, (y107), H', ⟨by have := HJ1.out; first | omega | exact Nat.le_refl _⟩, ⟨by (with_reducible repeat (first | apply Kd.R_alloc | apply Kd.R_drewN | apply Kd.R_drew)); exact HO109.out⟩, ⟨by (with_reducible repeat (first | refine blk_drewN ?_ _ | refine blk_drew ?_ | refine blk_alloc ?_ _)); exact BK103.out⟩, ⟨by repeat (first | (with_reducible first | exact HB.out | apply below_alloc | apply pw_below_drewN | apply below_drew1 | refine below_set ?_ GE103.out) | exact HB.out)⟩⟩
          · rw [if_neg c11] at H
            exact absurd H (by simp)
        · replace c10 := Bool.eq_false_iff.mpr c10
          subst c10
          have H1 : (redactorref19_Print.j1 kj1 x3_1 a0_0 false a0_2 a0_3 a0_4 a0_5 a0_6 l0_7) = some r := by rw [if_neg (show ¬ (false = true) by decide)] at H; exact H
          clear H
          have H := H1
          clear H1
          have H' := Aside0.mk H
          clear H
          go_wp2
          go_meet
          case rel => exact ⟨_, (x3_1), H', ⟨by have := HJ1.out; first | omega | exact Nat.le_refl _⟩, ⟨by (with_reducible repeat (first | apply Kd.R_alloc | apply Kd.R_drewN | apply Kd.R_drew)); exact HO_3.out⟩, ⟨by (with_reducible repeat (first | refine blk_drewN ?_ _ | refine blk_drew ?_ | refine blk_alloc ?_ _)); exact BK103.out⟩, ⟨by repeat (first | (with_reducible first | exact HB.out | apply below_alloc | apply pw_below_drewN | apply below_drew1 | refine below_set ?_ GE103.out) | exact HB.out)⟩⟩
      case rest =>
        clear HC8
        try clear c1
        try clear p2
        try clear c5
        try clear c6
        try clear c10
        try clear c11
        try clear hcz4_0
        try clear hcz4_1
        try clear hcz4_2
        try clear hcz4_3
        try clear hcz4_4
        try clear hcz4_5
        try clear hcz4_6
        try clear hcz4_7
        try clear hcz9_0
        try clear hcz9_1
        try clear hcz9_2
        try clear hcz9_3
        try clear hcz9_4
        try clear hcz9_5
        try clear hcz9_6
        try clear hcz9_7
        try clear hfz4_0
        try clear hfz4_1
        try clear hfz4_2
        try clear hfz4_3
        try clear hfz4_4
        try clear hfz4_5
        try clear hfz4_6
        try clear hfz4_7
        try clear hfz9_0
        try clear hfz9_1
        try clear hfz9_2
        try clear hfz9_3
        try clear hfz9_4
        try clear hfz9_5
        try clear hfz9_6
        try clear hfz9_7
        try clear p2
        obtain ⟨kq, x3_7, HA, HJ7, HO_3, BK103, HB⟩ := hcut
        cases kq with
        | zero => exact absurd HA.out (by simp [redactorref19_Print.j1])
        | succ kj7 =>
          have H := HA.out
          clear HA
          simp only [redactorref19_Print.j1] at H
          have HC13 := Aside0.mk H
          clear H
          go_upto_region 6 with (fail)
          go_cut [20] (fun v20 wc => ∃ (kq : Nat) (x20_12 : Bool), v20 = .bool x20_12 ∧ Aside0 (redactorref19_Print.j2 kq x3_7 x20_12 a0_0 a0_1 a0_2 a0_3 a0_4 a0_5 a0_6 l0_7 = some r) ∧ Aside0 (kq ≤ kj7) ∧ Aside0 (Kd.R Kd.string 9 wc w.heap.size (fun _ => True) u3 x3_7) ∧ Aside0 (wc.heap[gb103]? = some (.cells #[.bool a0_0, .bool a0_1, .bool a0_2, .bool a0_3, .string a0_4, .int .u8 a0_5, .string a0_6, (.slice A0_7 l0_7.length c0_7)] 24 (0, 0))) ∧ Aside0 (Below w.heap.size w wc))
          case first =>
            have H := HC13.out
            clear HC13
            by_cases c14 : a0_2 = true
            · subst c14
              have H1 : (redactorref19_Print.j2 kj7 x3_7 (!a0_3) a0_0 a0_1 true a0_3 a0_4 a0_5 a0_6 l0_7) = some r := by rw [if_pos rfl] at H; exact H
              clear H
              have H := H1
              clear H1
              have H' := Aside0.mk H
              clear H
              have hcz15_0 : wc.cell? ⟨gb103, 0, none⟩ = some (.bool a0_0) := (blk_cell BK103.out 0).trans rfl
              have hcz15_1 : wc.cell? ⟨gb103, 1, none⟩ = some (.bool a0_1) := (blk_cell BK103.out 1).trans rfl
              have hcz15_2 : wc.cell? ⟨gb103, 2, none⟩ = some (.bool true) := (blk_cell BK103.out 2).trans rfl
              have hcz15_3 : wc.cell? ⟨gb103, 3, none⟩ = some (.bool a0_3) := (blk_cell BK103.out 3).trans rfl
              have hcz15_4 : wc.cell? ⟨gb103, 4, none⟩ = some (.string a0_4) := (blk_cell BK103.out 4).trans rfl
              have hcz15_5 : wc.cell? ⟨gb103, 5, none⟩ = some (.int .u8 a0_5) := (blk_cell BK103.out 5).trans rfl
              have hcz15_6 : wc.cell? ⟨gb103, 6, none⟩ = some (.string a0_6) := (blk_cell BK103.out 6).trans rfl
              have hcz15_7 : wc.cell? ⟨gb103, 7, none⟩ = some (.slice A0_7 l0_7.length c0_7) := (blk_cell BK103.out 7).trans rfl
              have hfz15_0 := blk_frozen BK103.out 0
              have hfz15_1 := blk_frozen BK103.out 1
              have hfz15_2 := blk_frozen BK103.out 2
              have hfz15_3 := blk_frozen BK103.out 3
              have hfz15_4 := blk_frozen BK103.out 4
              have hfz15_5 := blk_frozen BK103.out 5
              have hfz15_6 := blk_frozen BK103.out 6
              have hfz15_7 := blk_frozen BK103.out 7
              go_wp2
              go_meet
              case rel => exact ⟨_, (!a0_3), (by first | rfl | (simp; done) | (simp [*]; done)), H', ⟨by have := HJ1.out; have := HJ7.out; first | omega | exact Nat.le_refl _⟩, ⟨by (with_reducible repeat (first | apply Kd.R_alloc | apply Kd.R_drewN | apply Kd.R_drew)); exact HO_3.out⟩, ⟨by (with_reducible repeat (first | refine blk_drewN ?_ _ | refine blk_drew ?_ | refine blk_alloc ?_ _)); exact BK103.out⟩, ⟨by repeat (first | (with_reducible first | exact HB.out | apply below_alloc | apply pw_below_drewN | apply below_drew1 | refine below_set ?_ GE103.out) | exact HB.out)⟩⟩
            · replace c14 := Bool.eq_false_iff.mpr c14
              subst c14
              have H1 : (redactorref19_Print.j2 kj7 x3_7 false a0_0 a0_1 false a0_3 a0_4 a0_5 a0_6 l0_7) = some r := by rw [if_neg (show ¬ (false = true) by decide)] at H; exact H
              clear H
              have H := H1
              clear H1
              have H' := Aside0.mk H
              clear H
              have hcz16_0 : wc.cell? ⟨gb103, 0, none⟩ = some (.bool a0_0) := (blk_cell BK103.out 0).trans rfl
              have hcz16_1 : wc.cell? ⟨gb103, 1, none⟩ = some (.bool a0_1) := (blk_cell BK103.out 1).trans rfl
              have hcz16_2 : wc.cell? ⟨gb103, 2, none⟩ = some (.bool false) := (blk_cell BK103.out 2).trans rfl
              have hcz16_3 : wc.cell? ⟨gb103, 3, none⟩ = some (.bool a0_3) := (blk_cell BK103.out 3).trans rfl
              have hcz16_4 : wc.cell? ⟨gb103, 4, none⟩ = some (.string a0_4) := (blk_cell BK103.out 4).trans rfl
              have hcz16_5 : wc.cell? ⟨gb103, 5, none⟩ = some (.int .u8 a0_5) := (blk_cell BK103.out 5).trans rfl
              have hcz16_6 : wc.cell? ⟨gb103, 6, none⟩ = some (.string a0_6) := (blk_cell BK103.out 6).trans rfl
              have hcz16_7 : wc.cell? ⟨gb103, 7, none⟩ = some (.slice A0_7 l0_7.length c0_7) := (blk_cell BK103.out 7).trans rfl
              have hfz16_0 := blk_frozen BK103.out 0
              have hfz16_1 := blk_frozen BK103.out 1
              have hfz16_2 := blk_frozen BK103.out 2
              have hfz16_3 := blk_frozen BK103.out 3
              have hfz16_4 := blk_frozen BK103.out 4
              have hfz16_5 := blk_frozen BK103.out 5
              have hfz16_6 := blk_frozen BK103.out 6
              have hfz16_7 := blk_frozen BK103.out 7
              go_wp2
              go_meet
              case rel => exact ⟨_, (false), (by first | rfl | (simp; done) | (simp [*]; done)), H', ⟨by have := HJ1.out; have := HJ7.out; first | omega | exact Nat.le_refl _⟩, ⟨by (with_reducible repeat (first | apply Kd.R_alloc | apply Kd.R_drewN | apply Kd.R_drew)); exact HO_3.out⟩, ⟨by (with_reducible repeat (first | refine blk_drewN ?_ _ | refine blk_drew ?_ | refine blk_alloc ?_ _)); exact BK103.out⟩, ⟨by repeat (first | (with_reducible first | exact HB.out | apply below_alloc | apply pw_below_drewN | apply below_drew1 | refine below_set ?_ GE103.out) | exact HB.out)⟩⟩
          case rest =>
            clear HC13
            try clear c1
            try clear p2
            try clear c5
            try clear c6
            try clear c10
            try clear c11
            try clear c13
            try clear c14
            try clear hcz15_0
            try clear hcz15_1
            try clear hcz15_2
            try clear hcz15_3
            try clear hcz15_4
            try clear hcz15_5
            try clear hcz15_6
            try clear hcz15_7
            try clear hcz16_0
            try clear hcz16_1
            try clear hcz16_2
            try clear hcz16_3
            try clear hcz16_4
            try clear hcz16_5
            try clear hcz16_6
            try clear hcz16_7
            try clear hcz4_0
            try clear hcz4_1
            try clear hcz4_2
            try clear hcz4_3
            try clear hcz4_4
            try clear hcz4_5
            try clear hcz4_6
            try clear hcz4_7
            try clear hcz9_0
            try clear hcz9_1
            try clear hcz9_2
            try clear hcz9_3
            try clear hcz9_4
            try clear hcz9_5
            try clear hcz9_6
            try clear hcz9_7
            try clear hfz15_0
            try clear hfz15_1
            try clear hfz15_2
            try clear hfz15_3
            try clear hfz15_4
            try clear hfz15_5
            try clear hfz15_6
            try clear hfz15_7
            try clear hfz16_0
            try clear hfz16_1
            try clear hfz16_2
            try clear hfz16_3
            try clear hfz16_4
            try clear hfz16_5
            try clear hfz16_6
            try clear hfz16_7
            try clear hfz4_0
            try clear hfz4_1
            try clear hfz4_2
            try clear hfz4_3
            try clear hfz4_4
            try clear hfz4_5
            try clear hfz4_6
            try clear hfz4_7
            try clear hfz9_0
            try clear hfz9_1
            try clear hfz9_2
            try clear hfz9_3
            try clear hfz9_4
            try clear hfz9_5
            try clear hfz9_6
            try clear hfz9_7
            try clear p2
            obtain ⟨kq, x20_12, rfl, HA, HJ12, HO_3, BK103, HB⟩ := hcut
            cases kq with
            | zero => exact absurd HA.out (by simp [redactorref19_Print.j2])
            | succ kj12 =>
              have H := HA.out
              clear HA
              simp only [redactorref19_Print.j2] at H
              have HC17 := Aside0.mk H
              clear H
              go_upto_if 20 with (fail)
              go_cut [3] (fun v3 wc => ∃ (kq : Nat) (x3_16 : List ByteArray), Aside0 (redactorref19_Print.j3 kq x3_16 a0_0 a0_1 a0_2 a0_3 a0_4 a0_5 a0_6 l0_7 = some r) ∧ Aside0 (kq ≤ kj12) ∧ Aside0 (Kd.R Kd.string 9 wc w.heap.size (fun _ => True) v3 x3_16) ∧ Aside0 (wc.heap[gb103]? = some (.cells #[.bool a0_0, .bool a0_1, .bool a0_2, .bool a0_3, .string a0_4, .int .u8 a0_5, .string a0_6, (.slice A0_7 l0_7.length c0_7)] 24 (0, 0))) ∧ Aside0 (Below w.heap.size w wc))
              case first =>
                have H := HC17.out
                clear HC17
                by_cases c18 : x20_12 = true
                · subst c18
                  have H1 : (if x3_7.length < 8796093022208 then (redactorref19_Print.j3 kj12 (x3_7 ++ [(⟨#[45, 115]⟩ : ByteArray)]) a0_0 a0_1 a0_2 a0_3 a0_4 a0_5 a0_6 l0_7) else (none)) = some r := by rw [if_pos rfl] at H; exact H
                  clear H
                  have H := H1
                  clear H1
                  by_cases c19 : x3_7.length < 8796093022208
                  · rw [if_pos c19] at H
                    have LMc19 := Aside0.mk c19
                    clear c19
                    obtain ⟨y110, hy110⟩ : ∃ y_ : List ByteArray, y_ = (x3_7 ++ [(⟨#[45, 115]⟩ : ByteArray)]) := ⟨_, rfl⟩
                    replace H : (redactorref19_Print.j3 kj12 y110 a0_0 a0_1 a0_2 a0_3 a0_4 a0_5 a0_6 l0_7) = some r := by first | (rw [hy110]; with_reducible exact H) | (have H2_ := (Option.bind_some _ _).symm.trans H; rw [hy110]; with_reducible exact H2_) | (have H2_ := (Option.bind_some _ _).symm.trans H; with_reducible exact H2_) | with_reducible exact H | (rw [hy110]; exact H) | exact H
                    have Ny110 := Aside0.mk hy110
                    clear hy110
                    have H' := Aside0.mk H
                    clear H
                    go_wp2_with (first | ((with_reducible refine gate_builtin (b := .append) (xs := #[.tmp 21, .tmp 22]) rfl ?_); at_builtin; refine Kd.R_append Kd.string (w0 := w) w.heap.size rfl (.tmp 21) (.tmp 22) 22 9 (.string ⟨#[]⟩) 16 rfl Tryd.underlying22 info9 rfl (by decide) (by omega) u3 x3_7 (⟨#[45, 115]⟩ : ByteArray) [.string (⟨#[45, 115]⟩ : ByteArray)] (fun _ => True) (fun _ => False) rfl rfl ?aP (fun _ hk => hk.elim) ?aF ?aO ?aB ?aS ?aL ?_; (case aP => exact rfl); (case aB => exact (by repeat (first | (with_reducible first | exact HB.out | apply below_alloc | apply pw_below_drewN | apply below_drew1 | refine below_set ?_ GE103.out) | exact HB.out))); (case aF => exact (fun _ _ => trivial)); (case aO => exact (by (with_reducible repeat (first | apply Kd.R_alloc | apply Kd.R_drewN | apply Kd.R_drew)); exact HO_3.out)); (case aS => exact (below_size (by repeat (first | (with_reducible first | exact HB.out | apply below_alloc | apply pw_below_drewN | apply below_drew1 | refine below_set ?_ GE103.out) | exact HB.out)))); (case aL => have := LMc19.out; omega); intro v111 w20 ho hb hg hat; rw [← Ny110.out] at ho; have n0_ := Aside0.mk (blk_grown (g := gb103) (o := .cells #[.bool a0_0, .bool a0_1, .bool a0_2, .bool a0_3, .string a0_4, .int .u8 a0_5, .string a0_6, .slice A0_7 l0_7.length c0_7] 24 (0, 0)) (by (with_reducible repeat (first | refine blk_drewN ?_ _ | refine blk_drew ?_ | refine blk_alloc ?_ _)); exact BK103.out) hg (Kd.R_ne HO_3.out BK103.out (by decide))); have n1_ := Aside0.mk (hb); have n2_ := Aside0.mk (ho); clear BK103; clear HB; clear HO_3; have BK103 := n0_; have HB := n1_; have HO112 := n2_; clear n0_ n1_ n2_; clear ho hb hg hat))
                    go_meet
                    case rel => exact ⟨_, (y110), H', ⟨by have := HJ1.out; have := HJ7.out; have := HJ12.out; first | omega | exact Nat.le_refl _⟩, ⟨by (with_reducible repeat (first | apply Kd.R_alloc | apply Kd.R_drewN | apply Kd.R_drew)); exact HO112.out⟩, ⟨by (with_reducible repeat (first | refine blk_drewN ?_ _ | refine blk_drew ?_ | refine blk_alloc ?_ _)); exact BK103.out⟩, ⟨by repeat (first | (with_reducible first | exact HB.out | apply below_alloc | apply pw_below_drewN | apply below_drew1 | refine below_set ?_ GE103.out) | exact HB.out)⟩⟩
                  · rw [if_neg c19] at H
                    exact absurd H (by simp)
                · replace c18 := Bool.eq_false_iff.mpr c18
                  subst c18
                  have H1 : (redactorref19_Print.j3 kj12 x3_7 a0_0 a0_1 a0_2 a0_3 a0_4 a0_5 a0_6 l0_7) = some r := by rw [if_neg (show ¬ (false = true) by decide)] at H; exact H
                  clear H
                  have H := H1
                  clear H1
                  have H' := Aside0.mk H
                  clear H
                  go_wp2
                  go_meet
                  case rel => exact ⟨_, (x3_7), H', ⟨by have := HJ1.out; have := HJ7.out; have := HJ12.out; first | omega | exact Nat.le_refl _⟩, ⟨by (with_reducible repeat (first | apply Kd.R_alloc | apply Kd.R_drewN | apply Kd.R_drew)); exact HO_3.out⟩, ⟨by (with_reducible repeat (first | refine blk_drewN ?_ _ | refine blk_drew ?_ | refine blk_alloc ?_ _)); exact BK103.out⟩, ⟨by repeat (first | (with_reducible first | exact HB.out | apply below_alloc | apply pw_below_drewN | apply below_drew1 | refine below_set ?_ GE103.out) | exact HB.out)⟩⟩
              case rest =>
                clear HC17
                try clear c1
                try clear p2
                try clear c5
                try clear c6
                try clear c10
                try clear c11
                try clear c13
                try clear c14
                try clear c18
                try clear c19
                try clear hcz15_0
                try clear hcz15_1
                try clear hcz15_2
                try clear hcz15_3
                try clear hcz15_4
                try clear hcz15_5
                try clear hcz15_6
                try clear hcz15_7
                try clear hcz16_0
                try clear hcz16_1
                try clear hcz16_2
                try clear hcz16_3
                try clear hcz16_4
                try clear hcz16_5
                try clear hcz16_6
                try clear hcz16_7
                try clear hcz4_0
                try clear hcz4_1
                try clear hcz4_2
                try clear hcz4_3
                try clear hcz4_4
                try clear hcz4_5
                try clear hcz4_6
                try clear hcz4_7
                try clear hcz9_0
                try clear hcz9_1
                try clear hcz9_2
                try clear hcz9_3
                try clear hcz9_4
                try clear hcz9_5
                try clear hcz9_6
                try clear hcz9_7
                try clear hfz15_0
                try clear hfz15_1
                try clear hfz15_2
                try clear hfz15_3
                try clear hfz15_4
                try clear hfz15_5
                try clear hfz15_6
                try clear hfz15_7
                try clear hfz16_0
                try clear hfz16_1
                try clear hfz16_2
                try clear hfz16_3
                try clear hfz16_4
                try clear hfz16_5
                try clear hfz16_6
                try clear hfz16_7
                try clear hfz4_0
                try clear hfz4_1
                try clear hfz4_2
                try clear hfz4_3
                try clear hfz4_4
                try clear hfz4_5
                try clear hfz4_6
                try clear hfz4_7
                try clear hfz9_0
                try clear hfz9_1
                try clear hfz9_2
                try clear hfz9_3
                try clear hfz9_4
                try clear hfz9_5
                try clear hfz9_6
                try clear hfz9_7
                try clear p2
                obtain ⟨kq, x3_16, HA, HJ16, HO_3, BK103, HB⟩ := hcut
                cases kq with
                | zero => exact absurd HA.out (by simp [redactorref19_Print.j3])
                | succ kj16 =>
                  have H := HA.out
                  clear HA
                  simp only [redactorref19_Print.j3] at H
                  have HC21 := Aside0.mk H
                  clear H
                  have hcz22_0 : wc.cell? ⟨gb103, 0, none⟩ = some (.bool a0_0) := (blk_cell BK103.out 0).trans rfl
                  have hcz22_1 : wc.cell? ⟨gb103, 1, none⟩ = some (.bool a0_1) := (blk_cell BK103.out 1).trans rfl
                  have hcz22_2 : wc.cell? ⟨gb103, 2, none⟩ = some (.bool a0_2) := (blk_cell BK103.out 2).trans rfl
                  have hcz22_3 : wc.cell? ⟨gb103, 3, none⟩ = some (.bool a0_3) := (blk_cell BK103.out 3).trans rfl
                  have hcz22_4 : wc.cell? ⟨gb103, 4, none⟩ = some (.string a0_4) := (blk_cell BK103.out 4).trans rfl
                  have hcz22_5 : wc.cell? ⟨gb103, 5, none⟩ = some (.int .u8 a0_5) := (blk_cell BK103.out 5).trans rfl
                  have hcz22_6 : wc.cell? ⟨gb103, 6, none⟩ = some (.string a0_6) := (blk_cell BK103.out 6).trans rfl
                  have hcz22_7 : wc.cell? ⟨gb103, 7, none⟩ = some (.slice A0_7 l0_7.length c0_7) := (blk_cell BK103.out 7).trans rfl
                  have hfz22_0 := blk_frozen BK103.out 0
                  have hfz22_1 := blk_frozen BK103.out 1
                  have hfz22_2 := blk_frozen BK103.out 2
                  have hfz22_3 := blk_frozen BK103.out 3
                  have hfz22_4 := blk_frozen BK103.out 4
                  have hfz22_5 := blk_frozen BK103.out 5
                  have hfz22_6 := blk_frozen BK103.out 6
                  have hfz22_7 := blk_frozen BK103.out 7
                  go_upto_if 25 with (fail)
                  go_cut [3] (fun v3 wc => ∃ (kq : Nat) (x3_20 : List ByteArray), Aside0 (redactorref19_Print.j4 kq x3_20 a0_0 a0_1 a0_2 a0_3 a0_4 a0_5 a0_6 l0_7 = some r) ∧ Aside0 (kq ≤ kj16) ∧ Aside0 (Kd.R Kd.string 9 wc w.heap.size (fun _ => True) v3 x3_20) ∧ Aside0 (wc.heap[gb103]? = some (.cells #[.bool a0_0, .bool a0_1, .bool a0_2, .bool a0_3, .string a0_4, .int .u8 a0_5, .string a0_6, (.slice A0_7 l0_7.length c0_7)] 24 (0, 0))) ∧ Aside0 (Below w.heap.size w wc))
                  case first =>
                    have H := HC21.out
                    clear HC21
                    by_cases c23 : a0_3 = true
                    · subst c23
                      have H1 : (if x3_16.length < 8796093022208 then (redactorref19_Print.j4 kj16 (x3_16 ++ [(⟨#[45, 105]⟩ : ByteArray)]) a0_0 a0_1 a0_2 true a0_4 a0_5 a0_6 l0_7) else (none)) = some r := by rw [if_pos rfl] at H; exact H
                      clear H
                      have H := H1
                      clear H1
                      by_cases c24 : x3_16.length < 8796093022208
                      · rw [if_pos c24] at H
                        have LMc24 := Aside0.mk c24
                        clear c24
                        obtain ⟨y113, hy113⟩ : ∃ y_ : List ByteArray, y_ = (x3_16 ++ [(⟨#[45, 105]⟩ : ByteArray)]) := ⟨_, rfl⟩
                        replace H : (redactorref19_Print.j4 kj16 y113 a0_0 a0_1 a0_2 true a0_4 a0_5 a0_6 l0_7) = some r := by first | (rw [hy113]; with_reducible exact H) | (have H2_ := (Option.bind_some _ _).symm.trans H; rw [hy113]; with_reducible exact H2_) | (have H2_ := (Option.bind_some _ _).symm.trans H; with_reducible exact H2_) | with_reducible exact H | (rw [hy113]; exact H) | exact H
                        have Ny113 := Aside0.mk hy113
                        clear hy113
                        have H' := Aside0.mk H
                        clear H
                        go_wp2_with (first | ((with_reducible refine gate_builtin (b := .append) (xs := #[.tmp 26, .tmp 27]) rfl ?_); at_builtin; refine Kd.R_append Kd.string (w0 := w) w.heap.size rfl (.tmp 26) (.tmp 27) 22 9 (.string ⟨#[]⟩) 16 rfl Tryd.underlying22 info9 rfl (by decide) (by omega) u3 x3_16 (⟨#[45, 105]⟩ : ByteArray) [.string (⟨#[45, 105]⟩ : ByteArray)] (fun _ => True) (fun _ => False) rfl rfl ?aP (fun _ hk => hk.elim) ?aF ?aO ?aB ?aS ?aL ?_; (case aP => exact rfl); (case aB => exact (by repeat (first | (with_reducible first | exact HB.out | apply below_alloc | apply pw_below_drewN | apply below_drew1 | refine below_set ?_ GE103.out) | exact HB.out))); (case aF => exact (fun _ _ => trivial)); (case aO => exact (by (with_reducible repeat (first | apply Kd.R_alloc | apply Kd.R_drewN | apply Kd.R_drew)); exact HO_3.out)); (case aS => exact (below_size (by repeat (first | (with_reducible first | exact HB.out | apply below_alloc | apply pw_below_drewN | apply below_drew1 | refine below_set ?_ GE103.out) | exact HB.out)))); (case aL => have := LMc24.out; omega); intro v114 w25 ho hb hg hat; rw [← Ny113.out] at ho; have n0_ := Aside0.mk (blk_grown (g := gb103) (o := .cells #[.bool a0_0, .bool a0_1, .bool a0_2, .bool true, .string a0_4, .int .u8 a0_5, .string a0_6, .slice A0_7 l0_7.length c0_7] 24 (0, 0)) (by (with_reducible repeat (first | refine blk_drewN ?_ _ | refine blk_drew ?_ | refine blk_alloc ?_ _)); exact BK103.out) hg (Kd.R_ne HO_3.out BK103.out (by decide))); have n1_ := Aside0.mk (hb); have n2_ := Aside0.mk (ho); clear BK103; clear HB; clear HO_3; have BK103 := n0_; have HB := n1_; have HO115 := n2_; clear n0_ n1_ n2_; clear ho hb hg hat))
                        go_meet
                        case rel => exact ⟨_, (y113), H', ⟨by have := HJ1.out; have := HJ7.out; have := HJ12.out; have := HJ16.out; first | omega | exact Nat.le_refl _⟩, ⟨by (with_reducible repeat (first | apply Kd.R_alloc | apply Kd.R_drewN | apply Kd.R_drew)); exact HO115.out⟩, ⟨by (with_reducible repeat (first | refine blk_drewN ?_ _ | refine blk_drew ?_ | refine blk_alloc ?_ _)); exact BK103.out⟩, ⟨by repeat (first | (with_reducible first | exact HB.out | apply below_alloc | apply pw_below_drewN | apply below_drew1 | refine below_set ?_ GE103.out) | exact HB.out)⟩⟩
                      · rw [if_neg c24] at H
                        exact absurd H (by simp)
                    · replace c23 := Bool.eq_false_iff.mpr c23
                      subst c23
                      have H1 : (redactorref19_Print.j4 kj16 x3_16 a0_0 a0_1 a0_2 false a0_4 a0_5 a0_6 l0_7) = some r := by rw [if_neg (show ¬ (false = true) by decide)] at H; exact H
                      clear H
                      have H := H1
                      clear H1
                      have H' := Aside0.mk H
                      clear H
                      go_wp2
                      go_meet
                      case rel => exact ⟨_, (x3_16), H', ⟨by have := HJ1.out; have := HJ7.out; have := HJ12.out; have := HJ16.out; first | omega | exact Nat.le_refl _⟩, ⟨by (with_reducible repeat (first | apply Kd.R_alloc | apply Kd.R_drewN | apply Kd.R_drew)); exact HO_3.out⟩, ⟨by (with_reducible repeat (first | refine blk_drewN ?_ _ | refine blk_drew ?_ | refine blk_alloc ?_ _)); exact BK103.out⟩, ⟨by repeat (first | (with_reducible first | exact HB.out | apply below_alloc | apply pw_below_drewN | apply below_drew1 | refine below_set ?_ GE103.out) | exact HB.out)⟩⟩
                  case rest =>
                    clear HC21
                    try clear c1
                    try clear c2
                    try clear p2
                    try clear c5
                    try clear c6
                    try clear c10
                    try clear c11
                    try clear c13
                    try clear c14
                    try clear c18
                    try clear c19
                    try clear c23
                    try clear c24
                    try clear hcz15_0
                    try clear hcz15_1
                    try clear hcz15_2
                    try clear hcz15_3
                    try clear hcz15_4
                    try clear hcz15_5
                    try clear hcz15_6
                    try clear hcz15_7
                    try clear hcz16_0
                    try clear hcz16_1
                    try clear hcz16_2
                    try clear hcz16_3
                    try clear hcz16_4
                    try clear hcz16_5
                    try clear hcz16_6
                    try clear hcz16_7
                    try clear hcz22_0
                    try clear hcz22_1
                    try clear hcz22_2
                    try clear hcz22_3
                    try clear hcz22_4
                    try clear hcz22_5
                    try clear hcz22_6
                    try clear hcz22_7
                    try clear hcz4_0
                    try clear hcz4_1
                    try clear hcz4_2
                    try clear hcz4_3
                    try clear hcz4_4
                    try clear hcz4_5
                    try clear hcz4_6
                    try clear hcz4_7
                    try clear hcz9_0
                    try clear hcz9_1
                    try clear hcz9_2
                    try clear hcz9_3
                    try clear hcz9_4
                    try clear hcz9_5
                    try clear hcz9_6
                    try clear hcz9_7
                    try clear hfz15_0
                    try clear hfz15_1
                    try clear hfz15_2
                    try clear hfz15_3
                    try clear hfz15_4
                    try clear hfz15_5
                    try clear hfz15_6
                    try clear hfz15_7
                    try clear hfz16_0
                    try clear hfz16_1
                    try clear hfz16_2
                    try clear hfz16_3
                    try clear hfz16_4
                    try clear hfz16_5
                    try clear hfz16_6
                    try clear hfz16_7
                    try clear hfz22_0
                    try clear hfz22_1
                    try clear hfz22_2
                    try clear hfz22_3
                    try clear hfz22_4
                    try clear hfz22_5
                    try clear hfz22_6
                    try clear hfz22_7
                    try clear hfz4_0
                    try clear hfz4_1
                    try clear hfz4_2
                    try clear hfz4_3
                    try clear hfz4_4
                    try clear hfz4_5
                    try clear hfz4_6
                    try clear hfz4_7
                    try clear hfz9_0
                    try clear hfz9_1
                    try clear hfz9_2
                    try clear hfz9_3
                    try clear hfz9_4
                    try clear hfz9_5
                    try clear hfz9_6
                    try clear hfz9_7
                    try clear p2
                    obtain ⟨kq, x3_20, HA, HJ20, HO_3, BK103, HB⟩ := hcut
                    cases kq with
                    | zero => exact absurd HA.out (by simp [redactorref19_Print.j4])
                    | succ kj20 =>
                      have H := HA.out
                      clear HA
                      simp only [redactorref19_Print.j4] at H
                      have HC26 := Aside0.mk H
                      clear H
                      have hcz27_0 : wc.cell? ⟨gb103, 0, none⟩ = some (.bool a0_0) := (blk_cell BK103.out 0).trans rfl
                      have hcz27_1 : wc.cell? ⟨gb103, 1, none⟩ = some (.bool a0_1) := (blk_cell BK103.out 1).trans rfl
                      have hcz27_2 : wc.cell? ⟨gb103, 2, none⟩ = some (.bool a0_2) := (blk_cell BK103.out 2).trans rfl
                      have hcz27_3 : wc.cell? ⟨gb103, 3, none⟩ = some (.bool a0_3) := (blk_cell BK103.out 3).trans rfl
                      have hcz27_4 : wc.cell? ⟨gb103, 4, none⟩ = some (.string a0_4) := (blk_cell BK103.out 4).trans rfl
                      have hcz27_5 : wc.cell? ⟨gb103, 5, none⟩ = some (.int .u8 a0_5) := (blk_cell BK103.out 5).trans rfl
                      have hcz27_6 : wc.cell? ⟨gb103, 6, none⟩ = some (.string a0_6) := (blk_cell BK103.out 6).trans rfl
                      have hcz27_7 : wc.cell? ⟨gb103, 7, none⟩ = some (.slice A0_7 l0_7.length c0_7) := (blk_cell BK103.out 7).trans rfl
                      have hfz27_0 := blk_frozen BK103.out 0
                      have hfz27_1 := blk_frozen BK103.out 1
                      have hfz27_2 := blk_frozen BK103.out 2
                      have hfz27_3 := blk_frozen BK103.out 3
                      have hfz27_4 := blk_frozen BK103.out 4
                      have hfz27_5 := blk_frozen BK103.out 5
                      have hfz27_6 := blk_frozen BK103.out 6
                      have hfz27_7 := blk_frozen BK103.out 7
                      go_upto_if 31 with (fail)
                      go_cut [3] (fun v3 wc => ∃ (kq : Nat) (x3_25 : List ByteArray), Aside0 (redactorref19_Print.j5 kq x3_25 a0_0 a0_1 a0_2 a0_3 a0_4 a0_5 a0_6 l0_7 = some r) ∧ Aside0 (kq ≤ kj20) ∧ Aside0 (Kd.R Kd.string 9 wc w.heap.size (fun _ => True) v3 x3_25) ∧ Aside0 (wc.heap[gb103]? = some (.cells #[.bool a0_0, .bool a0_1, .bool a0_2, .bool a0_3, .string a0_4, .int .u8 a0_5, .string a0_6, (.slice A0_7 l0_7.length c0_7)] 24 (0, 0))) ∧ Aside0 (Below w.heap.size w wc))
                      case first =>
                        have H := HC26.out
                        clear HC26
                        by_cases c28 : a0_5 = 2
                        · rw [if_pos c28] at H
                          have c28b0 : (a0_5 == 2) = true := beq_iff_eq.mpr c28
                          have c28b1 : (a0_5 != 2) = false := bne_eq_false_iff_eq.mpr c28
                          clear c28
                          (first | rw [c28b0] | (simp only [i64_w, i32_w]; rw [c28b0]) | skip)
                          obtain ⟨y116, hy116⟩ : ∃ y_ : List ByteArray, y_ = (([(⟨#[45, 99]⟩ : ByteArray), (⟨#[117, 116, 102, 45, 49, 54]⟩ : ByteArray)] : List ByteArray)) := ⟨_, rfl⟩
                          replace H : (if x3_20.length + y116.length < 8796093022208 then (redactorref19_Print.j5 kj20 (x3_20 ++ y116) a0_0 a0_1 a0_2 a0_3 a0_4 a0_5 a0_6 l0_7) else (none)) = some r := by first | (rw [hy116]; with_reducible exact H) | (have H2_ := (Option.bind_some _ _).symm.trans H; rw [hy116]; with_reducible exact H2_) | (have H2_ := (Option.bind_some _ _).symm.trans H; with_reducible exact H2_) | with_reducible exact H | (rw [hy116]; exact H) | exact H
                          have Ny116 := Aside0.mk hy116
                          clear hy116
                          by_cases c29 : x3_20.length + y116.length < 8796093022208
                          · rw [if_pos c29] at H
                            have LMc29 := Aside0.mk c29
                            clear c29
                            obtain ⟨y119, hy119⟩ : ∃ y_ : List ByteArray, y_ = (x3_20 ++ y116) := ⟨_, rfl⟩
                            replace H : (redactorref19_Print.j5 kj20 y119 a0_0 a0_1 a0_2 a0_3 a0_4 a0_5 a0_6 l0_7) = some r := by first | (rw [hy119]; with_reducible exact H) | (have H2_ := (Option.bind_some _ _).symm.trans H; rw [hy119]; with_reducible exact H2_) | (have H2_ := (Option.bind_some _ _).symm.trans H; with_reducible exact H2_) | with_reducible exact H | (rw [hy119]; exact H) | exact H
                            have Ny119 := Aside0.mk hy119
                            clear hy119
                            have H' := Aside0.mk H
                            clear H
                            go_wp2_with (first | ((with_reducible refine gate_dst (N := 33) rfl ?_); refine Kd.R_lit Kd.string _ 9 ?hg (N := 33) ?hd (xs := ([(⟨#[45, 99]⟩ : ByteArray), (⟨#[117, 116, 102, 45, 49, 54]⟩ : ByteArray)] : List ByteArray)) (inner := [.string (⟨#[45, 99]⟩ : ByteArray), .string (⟨#[117, 116, 102, 45, 49, 54]⟩ : ByteArray)]) (ok := fun _ => True) (okp := fun _ => True) ?hr ?hp (fun _ hk => hk) trivial (Below.refl _ _) (Nat.le_refl _) (by simp) ?_; (case hd => rfl); (case hg => rfl); (case hr => first | (go_simp; done) | (go_simp; rfl)); (case hp => exact (Reps.one (show Kd.M Kd.string _ _ _ (⟨#[45, 99]⟩ : ByteArray) [.string (⟨#[45, 99]⟩ : ByteArray)] from rfl) (Reps.one (show Kd.M Kd.string _ _ _ (⟨#[117, 116, 102, 45, 49, 54]⟩ : ByteArray) [.string (⟨#[117, 116, 102, 45, 49, 54]⟩ : ByteArray)] from rfl) (Reps.none _ _)))); intro v117 w30 ho31 hb hg_ hnew_; clear hg_ hnew_; (first | rw [← Ny116.out] at ho31 | (simp only [Int.reduceToNat] at ho31; rw [← Ny116.out] at ho31)); have n0_ := Aside0.mk (Kd.R_elder' (by (with_reducible repeat (first | apply Kd.R_alloc | apply Kd.R_drewN | apply Kd.R_drew)); exact HO_3.out) (Kd.R_base ho31) hb); have n1_ := Aside0.mk (Kd.R_lower (Kd.R_new' ho31 (Kd.R_lt (by (with_reducible repeat (first | apply Kd.R_alloc | apply Kd.R_drewN | apply Kd.R_drew)); exact HO_3.out))) (below_size (by repeat (first | (with_reducible first | exact HB.out | apply below_alloc | apply pw_below_drewN | apply below_drew1 | refine below_set ?_ GE103.out) | exact HB.out)))); have n2_ := Aside0.mk (blk_below (g := gb103) (o := .cells #[.bool a0_0, .bool a0_1, .bool a0_2, .bool a0_3, .string a0_4, .int .u8 a0_5, .string a0_6, .slice A0_7 l0_7.length c0_7] 24 (0, 0)) (by (with_reducible repeat (first | refine blk_drewN ?_ _ | refine blk_drew ?_ | refine blk_alloc ?_ _)); exact BK103.out) hb); have n3_ := Aside0.mk (below_step (by repeat (first | (with_reducible first | exact HB.out | apply below_alloc | apply pw_below_drewN | apply below_drew1 | refine below_set ?_ GE103.out) | exact HB.out)) hb); clear HO_3; clear BK103; clear HB; have HO_3 := n0_; have HO118 := n1_; have BK103 := n2_; have HB := n3_; clear n0_ n1_ n2_ n3_; clear hb ho31; obtain ⟨Ao33, co33, eo33⟩ := Kd.R_slice HO118.out; subst eo33) | ((with_reducible refine gate_builtin (b := .append) (xs := #[.tmp 32, .tmp 33]) rfl ?_); at_builtin; refine Kd.R_append_rows Kd.string (w0 := w) w.heap.size rfl (.tmp 32) (.tmp 33) 22 9 (.string ⟨#[]⟩) 16 rfl Tryd.underlying22 info9 rfl (by decide) (by omega) u3 x3_20 y116 _ _ _ (fun k_ => some k_ ≠ (.slice Ao33 y116.length co33 : Value).ownBlock) (fun _ => False) rfl rfl ?aO ?aR (fun _ _ h => h) (fun _ h => h.elim) ?aF ?aB ?aS ?aL ?_; (case aR => repeat (first | exact (Kd.R_reads' HO118.out).2.2 | (with_reducible refine Kd.C_alloc ?_ _) | (with_reducible refine Kd.C_drewN ?_ _) | (with_reducible refine Kd.C_drew ?_))); (case aB => exact (by repeat (first | (with_reducible first | exact HB.out | apply below_alloc | apply pw_below_drewN | apply below_drew1 | refine below_set ?_ GE103.out) | exact HB.out))); (case aF => exact (fun k_ hk => Kd.fresh' (Kd.R_lt (by (with_reducible repeat (first | apply Kd.R_alloc | apply Kd.R_drewN | apply Kd.R_drew)); exact HO118.out)) k_ hk)); (case aO => exact (by (with_reducible repeat (first | apply Kd.R_alloc | apply Kd.R_drewN | apply Kd.R_drew)); exact Kd.R_mono HO_3.out (fun _ hk => hk.2))); (case aS => exact (below_size (by repeat (first | (with_reducible first | exact HB.out | apply below_alloc | apply pw_below_drewN | apply below_drew1 | refine below_set ?_ GE103.out) | exact HB.out)))); (case aL => have := LMc29.out; omega); intro v120 w32 ho hb hg hat; rw [← Ny119.out] at ho; have n0_ := Aside0.mk (blk_grown (g := gb103) (o := .cells #[.bool a0_0, .bool a0_1, .bool a0_2, .bool a0_3, .string a0_4, .int .u8 a0_5, .string a0_6, .slice A0_7 l0_7.length c0_7] 24 (0, 0)) (by (with_reducible repeat (first | refine blk_drewN ?_ _ | refine blk_drew ?_ | refine blk_alloc ?_ _)); exact BK103.out) hg (Kd.R_ne HO_3.out BK103.out (by decide))); have n1_ := Aside0.mk (Kd.R_after (ok := (fun _ => True)) (by (with_reducible repeat (first | apply Kd.R_alloc | apply Kd.R_drewN | apply Kd.R_drew)); exact HO118.out) hg hat); have n2_ := Aside0.mk (hb); have n3_ := Aside0.mk (ho); clear BK103; clear HO118; clear HB; clear HO_3; have BK103 := n0_; have HO118 := n1_; have HB := n2_; have HO121 := n3_; clear n0_ n1_ n2_ n3_; clear ho hb hg hat))
                            go_meet
                            case rel => exact ⟨_, (y119), H', ⟨by have := HJ1.out; have := HJ7.out; have := HJ12.out; have := HJ16.out; have := HJ20.out; first | omega | exact Nat.le_refl _⟩, ⟨by (with_reducible repeat (first | apply Kd.R_alloc | apply Kd.R_drewN | apply Kd.R_drew)); exact Kd.R_mono HO121.out (fun _ hk => trivial)⟩, ⟨by (with_reducible repeat (first | refine blk_drewN ?_ _ | refine blk_drew ?_ | refine blk_alloc ?_ _)); exact BK103.out⟩, ⟨by repeat (first | (with_reducible first | exact HB.out | apply below_alloc | apply pw_below_drewN | apply below_drew1 | refine below_set ?_ GE103.out) | exact HB.out)⟩⟩
                          · rw [if_neg c29] at H
                            exact absurd H (by simp)
                        · rw [if_neg c28] at H
                          have c28b0 : (a0_5 == 2) = false := beq_eq_false_iff_ne.mpr c28
                          have c28b1 : (a0_5 != 2) = true := bne_iff_ne.mpr c28
                          (first | rw [c28b0] | (simp only [i64_w, i32_w]; rw [c28b0]) | skip)
                          have H' := Aside0.mk H
                          clear H
                          go_wp2
                          go_meet
                          case rel => exact ⟨_, (x3_20), H', ⟨by have := HJ1.out; have := HJ7.out; have := HJ12.out; have := HJ16.out; have := HJ20.out; first | omega | exact Nat.le_refl _⟩, ⟨by (with_reducible repeat (first | apply Kd.R_alloc | apply Kd.R_drewN | apply Kd.R_drew)); exact HO_3.out⟩, ⟨by (with_reducible repeat (first | refine blk_drewN ?_ _ | refine blk_drew ?_ | refine blk_alloc ?_ _)); exact BK103.out⟩, ⟨by repeat (first | (with_reducible first | exact HB.out | apply below_alloc | apply pw_below_drewN | apply below_drew1 | refine below_set ?_ GE103.out) | exact HB.out)⟩⟩
                      case rest =>
                        clear HC26
                        try clear c1
                        try clear c2
                        try clear p2
                        try clear c5
                        try clear c6
                        try clear c10
                        try clear c11
                        try clear c13
                        try clear c14
                        try clear c18
                        try clear c19
                        try clear c23
                        try clear c24
                        try clear c28
                        try clear c28b0
                        try clear c28b1
                        try clear c29
                        try clear hcz15_0
                        try clear hcz15_1
                        try clear hcz15_2
                        try clear hcz15_3
                        try clear hcz15_4
                        try clear hcz15_5
                        try clear hcz15_6
                        try clear hcz15_7
                        try clear hcz16_0
                        try clear hcz16_1
                        try clear hcz16_2
                        try clear hcz16_3
                        try clear hcz16_4
                        try clear hcz16_5
                        try clear hcz16_6
                        try clear hcz16_7
                        try clear hcz22_0
                        try clear hcz22_1
                        try clear hcz22_2
                        try clear hcz22_3
                        try clear hcz22_4
                        try clear hcz22_5
                        try clear hcz22_6
                        try clear hcz22_7
                        try clear hcz27_0
                        try clear hcz27_1
                        try clear hcz27_2
                        try clear hcz27_3
                        try clear hcz27_4
                        try clear hcz27_5
                        try clear hcz27_6
                        try clear hcz27_7
                        try clear hcz4_0
                        try clear hcz4_1
                        try clear hcz4_2
                        try clear hcz4_3
                        try clear hcz4_4
                        try clear hcz4_5
                        try clear hcz4_6
                        try clear hcz4_7
                        try clear hcz9_0
                        try clear hcz9_1
                        try clear hcz9_2
                        try clear hcz9_3
                        try clear hcz9_4
                        try clear hcz9_5
                        try clear hcz9_6
                        try clear hcz9_7
                        try clear hfz15_0
                        try clear hfz15_1
                        try clear hfz15_2
                        try clear hfz15_3
                        try clear hfz15_4
                        try clear hfz15_5
                        try clear hfz15_6
                        try clear hfz15_7
                        try clear hfz16_0
                        try clear hfz16_1
                        try clear hfz16_2
                        try clear hfz16_3
                        try clear hfz16_4
                        try clear hfz16_5
                        try clear hfz16_6
                        try clear hfz16_7
                        try clear hfz22_0
                        try clear hfz22_1
                        try clear hfz22_2
                        try clear hfz22_3
                        try clear hfz22_4
                        try clear hfz22_5
                        try clear hfz22_6
                        try clear hfz22_7
                        try clear hfz27_0
                        try clear hfz27_1
                        try clear hfz27_2
                        try clear hfz27_3
                        try clear hfz27_4
                        try clear hfz27_5
                        try clear hfz27_6
                        try clear hfz27_7
                        try clear hfz4_0
                        try clear hfz4_1
                        try clear hfz4_2
                        try clear hfz4_3
                        try clear hfz4_4
                        try clear hfz4_5
                        try clear hfz4_6
                        try clear hfz4_7
                        try clear hfz9_0
                        try clear hfz9_1
                        try clear hfz9_2
                        try clear hfz9_3
                        try clear hfz9_4
                        try clear hfz9_5
                        try clear hfz9_6
                        try clear hfz9_7
                        try clear p2
                        obtain ⟨kq, x3_25, HA, HJ25, HO_3, BK103, HB⟩ := hcut
                        cases kq with
                        | zero => exact absurd HA.out (by simp [redactorref19_Print.j5])
                        | succ kj25 =>
                          have H := HA.out
                          clear HA
                          simp only [redactorref19_Print.j5] at H
                          by_cases c34 : a0_5 = 3
                          · rw [if_pos c34] at H
                            have c34b0 : (a0_5 == 3) = true := beq_iff_eq.mpr c34
                            have c34b1 : (a0_5 != 3) = false := bne_eq_false_iff_eq.mpr c34
                            clear c34
                            obtain ⟨y122, hy122⟩ : ∃ y_ : List ByteArray, y_ = (([(⟨#[45, 99]⟩ : ByteArray), (⟨#[108, 97, 116, 105, 110, 49]⟩ : ByteArray)] : List ByteArray)) := ⟨_, rfl⟩
                            replace H : (if x3_25.length + y122.length < 8796093022208 then ((some (x3_25 ++ y122 : List ByteArray)).bind fun y125 => (if a0_6.toList = ([] : List UInt8) then ((some (([(⟨#[45, 101]⟩ : ByteArray), a0_4, (⟨#[45, 45]⟩ : ByteArray)] : List ByteArray) : List ByteArray)).bind fun y128 => (if y125.length + y128.length < 8796093022208 then ((some (y125 ++ y128 : List ByteArray)).bind fun y131 => (if y131.length + l0_7.length < 8796093022208 then (some (y131 ++ l0_7)) else (none))) else (none))) else ((some (([(⟨#[45, 76]⟩ : ByteArray), a0_6] : List ByteArray) : List ByteArray)).bind fun y137 => (if y125.length + y137.length < 8796093022208 then ((some (y125 ++ y137 : List ByteArray)).bind fun y140 => ((some (([(⟨#[45, 101]⟩ : ByteArray), a0_4, (⟨#[45, 45]⟩ : ByteArray)] : List ByteArray) : List ByteArray)).bind fun y143 => (if y140.length + y143.length < 8796093022208 then ((some (y140 ++ y143 : List ByteArray)).bind fun y146 => (if y146.length + l0_7.length < 8796093022208 then (some (y146 ++ l0_7)) else (none))) else (none)))) else (none))))) else (none)) = some r := by first | (rw [hy122]; with_reducible exact H) | (have H2_ := (Option.bind_some _ _).symm.trans H; rw [hy122]; with_reducible exact H2_) | (have H2_ := (Option.bind_some _ _).symm.trans H; with_reducible exact H2_) | with_reducible exact H | (rw [hy122]; exact H) | exact H
                            have Ny122 := Aside0.mk hy122
                            clear hy122
                            by_cases c35 : x3_25.length + y122.length < 8796093022208
                            · rw [if_pos c35] at H
                              have LMc35 := Aside0.mk c35
                              clear c35
                              obtain ⟨y125, hy125⟩ : ∃ y_ : List ByteArray, y_ = (x3_25 ++ y122) := ⟨_, rfl⟩
                              replace H : (if a0_6.toList = ([] : List UInt8) then ((some (([(⟨#[45, 101]⟩ : ByteArray), a0_4, (⟨#[45, 45]⟩ : ByteArray)] : List ByteArray) : List ByteArray)).bind fun y128 => (if y125.length + y128.length < 8796093022208 then ((some (y125 ++ y128 : List ByteArray)).bind fun y131 => (if y131.length + l0_7.length < 8796093022208 then (some (y131 ++ l0_7)) else (none))) else (none))) else ((some (([(⟨#[45, 76]⟩ : ByteArray), a0_6] : List ByteArray) : List ByteArray)).bind fun y137 => (if y125.length + y137.length < 8796093022208 then ((some (y125 ++ y137 : List ByteArray)).bind fun y140 => ((some (([(⟨#[45, 101]⟩ : ByteArray), a0_4, (⟨#[45, 45]⟩ : ByteArray)] : List ByteArray) : List ByteArray)).bind fun y143 => (if y140.length + y143.length < 8796093022208 then ((some (y140 ++ y143 : List ByteArray)).bind fun y146 => (if y146.length + l0_7.length < 8796093022208 then (some (y146 ++ l0_7)) else (none))) else (none)))) else (none)))) = some r := by first | (rw [hy125]; with_reducible exact H) | (have H2_ := (Option.bind_some _ _).symm.trans H; rw [hy125]; with_reducible exact H2_) | (have H2_ := (Option.bind_some _ _).symm.trans H; with_reducible exact H2_) | with_reducible exact H | (rw [hy125]; exact H) | exact H
                              have Ny125 := Aside0.mk hy125
                              clear hy125
                              by_cases c36 : a0_6.toList = ([] : List UInt8)
                              · rw [if_pos c36] at H
                                have c36b0 : (a0_6.toList == ([] : List UInt8)) = true := beq_iff_eq.mpr c36
                                have c36b1 : (a0_6.toList != ([] : List UInt8)) = false := bne_eq_false_iff_eq.mpr c36
                                clear c36
                                obtain ⟨y128, hy128⟩ : ∃ y_ : List ByteArray, y_ = (([(⟨#[45, 101]⟩ : ByteArray), a0_4, (⟨#[45, 45]⟩ : ByteArray)] : List ByteArray)) := ⟨_, rfl⟩
                                replace H : (if y125.length + y128.length < 8796093022208 then ((some (y125 ++ y128 : List ByteArray)).bind fun y131 => (if y131.length + l0_7.length < 8796093022208 then (some (y131 ++ l0_7)) else (none))) else (none)) = some r := by first | (rw [hy128]; with_reducible exact H) | (have H2_ := (Option.bind_some _ _).symm.trans H; rw [hy128]; with_reducible exact H2_) | (have H2_ := (Option.bind_some _ _).symm.trans H; with_reducible exact H2_) | with_reducible exact H | (rw [hy128]; exact H) | exact H
                                have Ny128 := Aside0.mk hy128
                                clear hy128
                                by_cases c37 : y125.length + y128.length < 8796093022208
                                · rw [if_pos c37] at H
                                  have LMc37 := Aside0.mk c37
                                  clear c37
                                  obtain ⟨y131, hy131⟩ : ∃ y_ : List ByteArray, y_ = (y125 ++ y128) := ⟨_, rfl⟩
                                  replace H : (if y131.length + l0_7.length < 8796093022208 then (some (y131 ++ l0_7)) else (none)) = some r := by first | (rw [hy131]; with_reducible exact H) | (have H2_ := (Option.bind_some _ _).symm.trans H; rw [hy131]; with_reducible exact H2_) | (have H2_ := (Option.bind_some _ _).symm.trans H; with_reducible exact H2_) | with_reducible exact H | (rw [hy131]; exact H) | exact H
                                  have Ny131 := Aside0.mk hy131
                                  clear hy131
                                  by_cases c38 : y131.length + l0_7.length < 8796093022208
                                  · rw [if_pos c38] at H
                                    have LMc38 := Aside0.mk c38
                                    clear c38
                                    obtain ⟨y134, hy134⟩ : ∃ y_ : List ByteArray, y_ = (y131 ++ l0_7) := ⟨_, rfl⟩
                                    replace H : (some y134) = some r := by first | (rw [hy134]; with_reducible exact H) | (have H2_ := (Option.bind_some _ _).symm.trans H; rw [hy134]; with_reducible exact H2_) | (have H2_ := (Option.bind_some _ _).symm.trans H; with_reducible exact H2_) | with_reducible exact H | (rw [hy134]; exact H) | exact H
                                    have Ny134 := Aside0.mk hy134
                                    clear hy134
                                    obtain rfl := Option.some.inj H
                                    have hcz39_0 : wc.cell? ⟨gb103, 0, none⟩ = some (.bool a0_0) := (blk_cell BK103.out 0).trans rfl
                                    have hcz39_1 : wc.cell? ⟨gb103, 1, none⟩ = some (.bool a0_1) := (blk_cell BK103.out 1).trans rfl
                                    have hcz39_2 : wc.cell? ⟨gb103, 2, none⟩ = some (.bool a0_2) := (blk_cell BK103.out 2).trans rfl
                                    have hcz39_3 : wc.cell? ⟨gb103, 3, none⟩ = some (.bool a0_3) := (blk_cell BK103.out 3).trans rfl
                                    have hcz39_4 : wc.cell? ⟨gb103, 4, none⟩ = some (.string a0_4) := (blk_cell BK103.out 4).trans rfl
                                    have hcz39_5 : wc.cell? ⟨gb103, 5, none⟩ = some (.int .u8 a0_5) := (blk_cell BK103.out 5).trans rfl
                                    have hcz39_6 : wc.cell? ⟨gb103, 6, none⟩ = some (.string a0_6) := (blk_cell BK103.out 6).trans rfl
                                    have hcz39_7 : wc.cell? ⟨gb103, 7, none⟩ = some (.slice A0_7 l0_7.length c0_7) := (blk_cell BK103.out 7).trans rfl
                                    have hfz39_0 := blk_frozen BK103.out 0
                                    have hfz39_1 := blk_frozen BK103.out 1
                                    have hfz39_2 := blk_frozen BK103.out 2
                                    have hfz39_3 := blk_frozen BK103.out 3
                                    have hfz39_4 := blk_frozen BK103.out 4
                                    have hfz39_5 := blk_frozen BK103.out 5
                                    have hfz39_6 := blk_frozen BK103.out 6
                                    have hfz39_7 := blk_frozen BK103.out 7
                                    go_wp2_with (first | ((with_reducible refine gate_dst (N := 39) rfl ?_); refine Kd.R_lit Kd.string _ 9 ?hg (N := 39) ?hd (xs := ([(⟨#[45, 99]⟩ : ByteArray), (⟨#[108, 97, 116, 105, 110, 49]⟩ : ByteArray)] : List ByteArray)) (inner := [.string (⟨#[45, 99]⟩ : ByteArray), .string (⟨#[108, 97, 116, 105, 110, 49]⟩ : ByteArray)]) (ok := fun _ => True) (okp := fun _ => True) ?hr ?hp (fun _ hk => hk) trivial (Below.refl _ _) (Nat.le_refl _) (by simp) ?_; (case hd => rfl); (case hg => rfl); (case hr => first | (go_simp; done) | (go_simp; rfl)); (case hp => exact (Reps.one (show Kd.M Kd.string _ _ _ (⟨#[45, 99]⟩ : ByteArray) [.string (⟨#[45, 99]⟩ : ByteArray)] from rfl) (Reps.one (show Kd.M Kd.string _ _ _ (⟨#[108, 97, 116, 105, 110, 49]⟩ : ByteArray) [.string (⟨#[108, 97, 116, 105, 110, 49]⟩ : ByteArray)] from rfl) (Reps.none _ _)))); intro v123 w40 ho41 hb hg_ hnew_; clear hg_ hnew_; (first | rw [← Ny122.out] at ho41 | (simp only [Int.reduceToNat] at ho41; rw [← Ny122.out] at ho41)); have n0_ := Aside0.mk (Kd.R_elder' (by (with_reducible repeat (first | apply Kd.R_alloc | apply Kd.R_drewN | apply Kd.R_drew)); exact HO_3.out) (Kd.R_base ho41) hb); have n1_ := Aside0.mk (Kd.R_lower (Kd.R_new' ho41 (Kd.R_lt (by (with_reducible repeat (first | apply Kd.R_alloc | apply Kd.R_drewN | apply Kd.R_drew)); exact HO_3.out))) (below_size (by repeat (first | (with_reducible first | exact HB.out | apply below_alloc | apply pw_below_drewN | apply below_drew1 | refine below_set ?_ GE103.out) | exact HB.out)))); have n2_ := Aside0.mk (blk_below (g := gb103) (o := .cells #[.bool a0_0, .bool a0_1, .bool a0_2, .bool a0_3, .string a0_4, .int .u8 a0_5, .string a0_6, .slice A0_7 l0_7.length c0_7] 24 (0, 0)) (by (with_reducible repeat (first | refine blk_drewN ?_ _ | refine blk_drew ?_ | refine blk_alloc ?_ _)); exact BK103.out) hb); have n3_ := Aside0.mk (below_step (by repeat (first | (with_reducible first | exact HB.out | apply below_alloc | apply pw_below_drewN | apply below_drew1 | refine below_set ?_ GE103.out) | exact HB.out)) hb); clear HO_3; clear BK103; clear HB; have HO_3 := n0_; have HO124 := n1_; have BK103 := n2_; have HB := n3_; clear n0_ n1_ n2_ n3_; clear hb ho41; obtain ⟨Ao43, co43, eo43⟩ := Kd.R_slice HO124.out; subst eo43) | ((with_reducible refine gate_builtin (b := .append) (xs := #[.tmp 38, .tmp 39]) rfl ?_); at_builtin; refine Kd.R_append_rows Kd.string (w0 := w) w.heap.size rfl (.tmp 38) (.tmp 39) 22 9 (.string ⟨#[]⟩) 16 rfl Tryd.underlying22 info9 rfl (by decide) (by omega) u3 x3_25 y122 _ _ _ (fun k_ => some k_ ≠ (.slice Ao43 y122.length co43 : Value).ownBlock) (fun _ => False) rfl rfl ?aO ?aR (fun _ _ h => h) (fun _ h => h.elim) ?aF ?aB ?aS ?aL ?_; (case aR => repeat (first | exact (Kd.R_reads' HO124.out).2.2 | (with_reducible refine Kd.C_alloc ?_ _) | (with_reducible refine Kd.C_drewN ?_ _) | (with_reducible refine Kd.C_drew ?_))); (case aB => exact (by repeat (first | (with_reducible first | exact HB.out | apply below_alloc | apply pw_below_drewN | apply below_drew1 | refine below_set ?_ GE103.out) | exact HB.out))); (case aF => exact (fun k_ hk => Kd.fresh' (Kd.R_lt (by (with_reducible repeat (first | apply Kd.R_alloc | apply Kd.R_drewN | apply Kd.R_drew)); exact HO124.out)) k_ hk)); (case aO => exact (by (with_reducible repeat (first | apply Kd.R_alloc | apply Kd.R_drewN | apply Kd.R_drew)); exact Kd.R_mono HO_3.out (fun _ hk => hk.2))); (case aS => exact (below_size (by repeat (first | (with_reducible first | exact HB.out | apply below_alloc | apply pw_below_drewN | apply below_drew1 | refine below_set ?_ GE103.out) | exact HB.out)))); (case aL => have := LMc35.out; omega); intro v126 w42 ho hb hg hat; rw [← Ny125.out] at ho; have n0_ := Aside0.mk (blk_grown (g := gb103) (o := .cells #[.bool a0_0, .bool a0_1, .bool a0_2, .bool a0_3, .string a0_4, .int .u8 a0_5, .string a0_6, .slice A0_7 l0_7.length c0_7] 24 (0, 0)) (by (with_reducible repeat (first | refine blk_drewN ?_ _ | refine blk_drew ?_ | refine blk_alloc ?_ _)); exact BK103.out) hg (Kd.R_ne HO_3.out BK103.out (by decide))); have n1_ := Aside0.mk (Kd.R_after (ok := (fun _ => True)) (by (with_reducible repeat (first | apply Kd.R_alloc | apply Kd.R_drewN | apply Kd.R_drew)); exact HO124.out) hg hat); have n2_ := Aside0.mk (hb); have n3_ := Aside0.mk (ho); clear BK103; clear HO124; clear HB; clear HO_3; have BK103 := n0_; have HO124 := n1_; have HB := n2_; have HO127 := n3_; clear n0_ n1_ n2_ n3_; clear ho hb hg hat; have hcz44_0 : w42.cell? ⟨gb103, 0, none⟩ = some (.bool a0_0) := (blk_cell BK103.out 0).trans rfl; have hcz44_1 : w42.cell? ⟨gb103, 1, none⟩ = some (.bool a0_1) := (blk_cell BK103.out 1).trans rfl; have hcz44_2 : w42.cell? ⟨gb103, 2, none⟩ = some (.bool a0_2) := (blk_cell BK103.out 2).trans rfl; have hcz44_3 : w42.cell? ⟨gb103, 3, none⟩ = some (.bool a0_3) := (blk_cell BK103.out 3).trans rfl; have hcz44_4 : w42.cell? ⟨gb103, 4, none⟩ = some (.string a0_4) := (blk_cell BK103.out 4).trans rfl; have hcz44_5 : w42.cell? ⟨gb103, 5, none⟩ = some (.int .u8 a0_5) := (blk_cell BK103.out 5).trans rfl; have hcz44_6 : w42.cell? ⟨gb103, 6, none⟩ = some (.string a0_6) := (blk_cell BK103.out 6).trans rfl; have hcz44_7 : w42.cell? ⟨gb103, 7, none⟩ = some (.slice A0_7 l0_7.length c0_7) := (blk_cell BK103.out 7).trans rfl; have hfz44_0 := blk_frozen BK103.out 0; have hfz44_1 := blk_frozen BK103.out 1; have hfz44_2 := blk_frozen BK103.out 2; have hfz44_3 := blk_frozen BK103.out 3; have hfz44_4 := blk_frozen BK103.out 4; have hfz44_5 := blk_frozen BK103.out 5; have hfz44_6 := blk_frozen BK103.out 6; have hfz44_7 := blk_frozen BK103.out 7) | ((with_reducible refine gate_dst (N := 52) rfl ?_); refine Kd.R_lit Kd.string _ 9 ?hg (N := 52) ?hd (xs := ([(⟨#[45, 101]⟩ : ByteArray), a0_4, (⟨#[45, 45]⟩ : ByteArray)] : List ByteArray)) (inner := [.string (⟨#[45, 101]⟩ : ByteArray), .string a0_4, .string (⟨#[45, 45]⟩ : ByteArray)]) (ok := fun _ => True) (okp := fun _ => True) ?hr ?hp (fun _ hk => hk) trivial (Below.refl _ _) (Nat.le_refl _) (by simp) ?_; (case hd => rfl); (case hg => rfl); (case hr => first | (go_simp; done) | (go_simp; rfl)); (case hp => exact (Reps.one (show Kd.M Kd.string _ _ _ (⟨#[45, 101]⟩ : ByteArray) [.string (⟨#[45, 101]⟩ : ByteArray)] from rfl) (Reps.one (show Kd.M Kd.string _ _ _ a0_4 [.string a0_4] from rfl) (Reps.one (show Kd.M Kd.string _ _ _ (⟨#[45, 45]⟩ : ByteArray) [.string (⟨#[45, 45]⟩ : ByteArray)] from rfl) (Reps.none _ _))))); intro v129 w45 ho46 hb hg_ hnew_; clear hg_ hnew_; (first | rw [← Ny128.out] at ho46 | (simp only [Int.reduceToNat] at ho46; rw [← Ny128.out] at ho46)); have n0_ := Aside0.mk (Kd.R_elder' (by (with_reducible repeat (first | apply Kd.R_alloc | apply Kd.R_drewN | apply Kd.R_drew)); exact HO124.out) (Kd.R_base ho46) hb); have n1_ := Aside0.mk (Kd.R_elder' (by (with_reducible repeat (first | apply Kd.R_alloc | apply Kd.R_drewN | apply Kd.R_drew)); exact HO127.out) (Kd.R_base ho46) hb); have n2_ := Aside0.mk (Kd.R_lower (Kd.R_new' (Kd.R_new' ho46 (Kd.R_lt (by (with_reducible repeat (first | apply Kd.R_alloc | apply Kd.R_drewN | apply Kd.R_drew)); exact HO124.out))) (Kd.R_lt (by (with_reducible repeat (first | apply Kd.R_alloc | apply Kd.R_drewN | apply Kd.R_drew)); exact HO127.out))) (below_size (by repeat (first | (with_reducible first | exact HB.out | apply below_alloc | apply pw_below_drewN | apply below_drew1 | refine below_set ?_ GE103.out) | exact HB.out)))); have n3_ := Aside0.mk (blk_below (g := gb103) (o := .cells #[.bool a0_0, .bool a0_1, .bool a0_2, .bool a0_3, .string a0_4, .int .u8 a0_5, .string a0_6, .slice A0_7 l0_7.length c0_7] 24 (0, 0)) (by (with_reducible repeat (first | refine blk_drewN ?_ _ | refine blk_drew ?_ | refine blk_alloc ?_ _)); exact BK103.out) hb); have n4_ := Aside0.mk (below_step (by repeat (first | (with_reducible first | exact HB.out | apply below_alloc | apply pw_below_drewN | apply below_drew1 | refine below_set ?_ GE103.out) | exact HB.out)) hb); clear HO124; clear HO127; clear BK103; clear HB; have HO124 := n0_; have HO127 := n1_; have HO130 := n2_; have BK103 := n3_; have HB := n4_; clear n0_ n1_ n2_ n3_ n4_; clear hb ho46; obtain ⟨Ao48, co48, eo48⟩ := Kd.R_slice HO130.out; subst eo48) | ((with_reducible refine gate_builtin (b := .append) (xs := #[.tmp 49, .tmp 52]) rfl ?_); at_builtin; refine Kd.R_append_rows Kd.string (w0 := w) w.heap.size rfl (.tmp 49) (.tmp 52) 22 9 (.string ⟨#[]⟩) 16 rfl Tryd.underlying22 info9 rfl (by decide) (by omega) v126 y125 y128 _ _ _ (fun k_ => some k_ ≠ (.slice Ao43 y122.length co43 : Value).ownBlock ∧ some k_ ≠ (.slice Ao48 y128.length co48 : Value).ownBlock) (fun _ => False) rfl rfl ?aO ?aR (fun _ _ h => h) (fun _ h => h.elim) ?aF ?aB ?aS ?aL ?_; (case aR => repeat (first | exact (Kd.R_reads' HO130.out).2.2 | (with_reducible refine Kd.C_alloc ?_ _) | (with_reducible refine Kd.C_drewN ?_ _) | (with_reducible refine Kd.C_drew ?_))); (case aB => exact (by repeat (first | (with_reducible first | exact HB.out | apply below_alloc | apply pw_below_drewN | apply below_drew1 | refine below_set ?_ GE103.out) | exact HB.out))); (case aF => exact (fun k_ hk => ⟨Kd.fresh' (Kd.R_lt (by (with_reducible repeat (first | apply Kd.R_alloc | apply Kd.R_drewN | apply Kd.R_drew)); exact HO124.out)) k_ hk, Kd.fresh' (Kd.R_lt (by (with_reducible repeat (first | apply Kd.R_alloc | apply Kd.R_drewN | apply Kd.R_drew)); exact HO130.out)) k_ hk⟩)); (case aO => exact (by (with_reducible repeat (first | apply Kd.R_alloc | apply Kd.R_drewN | apply Kd.R_drew)); exact HO127.out)); (case aS => exact (below_size (by repeat (first | (with_reducible first | exact HB.out | apply below_alloc | apply pw_below_drewN | apply below_drew1 | refine below_set ?_ GE103.out) | exact HB.out)))); (case aL => have := LMc37.out; omega); intro v132 w47 ho hb hg hat; rw [← Ny131.out] at ho; have n0_ := Aside0.mk (blk_grown (g := gb103) (o := .cells #[.bool a0_0, .bool a0_1, .bool a0_2, .bool a0_3, .string a0_4, .int .u8 a0_5, .string a0_6, .slice A0_7 l0_7.length c0_7] 24 (0, 0)) (by (with_reducible repeat (first | refine blk_drewN ?_ _ | refine blk_drew ?_ | refine blk_alloc ?_ _)); exact BK103.out) hg (Kd.R_ne HO127.out BK103.out (by decide))); have n1_ := Aside0.mk (Kd.R_after (ok := (fun k_ => some k_ ≠ (.slice Ao48 y128.length co48 : Value).ownBlock)) (by (with_reducible repeat (first | apply Kd.R_alloc | apply Kd.R_drewN | apply Kd.R_drew)); exact Kd.R_mono HO124.out (fun _ hk => ⟨hk.2, hk.1.2⟩)) hg hat); have n2_ := Aside0.mk (Kd.R_after (ok := (fun k_ => some k_ ≠ (.slice Ao43 y122.length co43 : Value).ownBlock)) (by (with_reducible repeat (first | apply Kd.R_alloc | apply Kd.R_drewN | apply Kd.R_drew)); exact Kd.R_mono HO130.out (fun _ hk => ⟨hk.1.2, hk.2⟩)) hg hat); have n3_ := Aside0.mk (hb); have n4_ := Aside0.mk (ho); clear BK103; clear HO124; clear HO130; clear HB; clear HO127; have BK103 := n0_; have HO124 := n1_; have HO130 := n2_; have HB := n3_; have HO133 := n4_; clear n0_ n1_ n2_ n3_ n4_; clear ho hb hg hat; have hcz49_0 : w47.cell? ⟨gb103, 0, none⟩ = some (.bool a0_0) := (blk_cell BK103.out 0).trans rfl; have hcz49_1 : w47.cell? ⟨gb103, 1, none⟩ = some (.bool a0_1) := (blk_cell BK103.out 1).trans rfl; have hcz49_2 : w47.cell? ⟨gb103, 2, none⟩ = some (.bool a0_2) := (blk_cell BK103.out 2).trans rfl; have hcz49_3 : w47.cell? ⟨gb103, 3, none⟩ = some (.bool a0_3) := (blk_cell BK103.out 3).trans rfl; have hcz49_4 : w47.cell? ⟨gb103, 4, none⟩ = some (.string a0_4) := (blk_cell BK103.out 4).trans rfl; have hcz49_5 : w47.cell? ⟨gb103, 5, none⟩ = some (.int .u8 a0_5) := (blk_cell BK103.out 5).trans rfl; have hcz49_6 : w47.cell? ⟨gb103, 6, none⟩ = some (.string a0_6) := (blk_cell BK103.out 6).trans rfl; have hcz49_7 : w47.cell? ⟨gb103, 7, none⟩ = some (.slice A0_7 l0_7.length c0_7) := (blk_cell BK103.out 7).trans rfl; have hfz49_0 := blk_frozen BK103.out 0; have hfz49_1 := blk_frozen BK103.out 1; have hfz49_2 := blk_frozen BK103.out 2; have hfz49_3 := blk_frozen BK103.out 3; have hfz49_4 := blk_frozen BK103.out 4; have hfz49_5 := blk_frozen BK103.out 5; have hfz49_6 := blk_frozen BK103.out 6; have hfz49_7 := blk_frozen BK103.out 7) | ((with_reducible refine gate_builtin (b := .append) (xs := #[.tmp 54, .tmp 56]) rfl ?_); at_builtin; refine Kd.R_append_rows Kd.string (w0 := w) w.heap.size rfl (.tmp 54) (.tmp 56) 22 9 (.string ⟨#[]⟩) 16 rfl Tryd.underlying22 info9 rfl (by decide) (by omega) v132 y131 l0_7 _ _ _ (fun k_ => some k_ ≠ (.slice Ao43 y122.length co43 : Value).ownBlock ∧ some k_ ≠ (.slice Ao48 y128.length co48 : Value).ownBlock) (fun _ => False) rfl rfl ?aO ?aR (fun _ _ h => h) (fun _ h => h.elim) ?aF ?aB ?aS ?aL ?_; (case aR => repeat (first | exact (Kd.C_below HR0_7.out HB.out) | (with_reducible refine Kd.C_alloc ?_ _) | (with_reducible refine Kd.C_drewN ?_ _) | (with_reducible refine Kd.C_drew ?_))); (case aB => exact (by repeat (first | (with_reducible first | exact HB.out | apply below_alloc | apply pw_below_drewN | apply below_drew1 | refine below_set ?_ GE103.out) | exact HB.out))); (case aF => exact (fun k_ hk => ⟨Kd.fresh' (Kd.R_lt (by (with_reducible repeat (first | apply Kd.R_alloc | apply Kd.R_drewN | apply Kd.R_drew)); exact HO124.out)) k_ hk, Kd.fresh' (Kd.R_lt (by (with_reducible repeat (first | apply Kd.R_alloc | apply Kd.R_drewN | apply Kd.R_drew)); exact HO130.out)) k_ hk⟩)); (case aO => exact (by (with_reducible repeat (first | apply Kd.R_alloc | apply Kd.R_drewN | apply Kd.R_drew)); exact HO133.out)); (case aS => exact (below_size (by repeat (first | (with_reducible first | exact HB.out | apply below_alloc | apply pw_below_drewN | apply below_drew1 | refine below_set ?_ GE103.out) | exact HB.out)))); (case aL => have := LMc38.out; omega); intro v135 w50 ho hb hg hat; rw [← Ny134.out] at ho; have n0_ := Aside0.mk (blk_grown (g := gb103) (o := .cells #[.bool a0_0, .bool a0_1, .bool a0_2, .bool a0_3, .string a0_4, .int .u8 a0_5, .string a0_6, .slice A0_7 l0_7.length c0_7] 24 (0, 0)) (by (with_reducible repeat (first | refine blk_drewN ?_ _ | refine blk_drew ?_ | refine blk_alloc ?_ _)); exact BK103.out) hg (Kd.R_ne HO133.out BK103.out (by decide))); have n1_ := Aside0.mk (Kd.R_after (ok := (fun k_ => some k_ ≠ (.slice Ao48 y128.length co48 : Value).ownBlock)) (by (with_reducible repeat (first | apply Kd.R_alloc | apply Kd.R_drewN | apply Kd.R_drew)); exact HO124.out) hg hat); have n2_ := Aside0.mk (Kd.R_after (ok := (fun k_ => some k_ ≠ (.slice Ao43 y122.length co43 : Value).ownBlock)) (by (with_reducible repeat (first | apply Kd.R_alloc | apply Kd.R_drewN | apply Kd.R_drew)); exact HO130.out) hg hat); have n3_ := Aside0.mk (hb); have n4_ := Aside0.mk (ho); clear BK103; clear HO124; clear HO130; clear HB; clear HO133; have BK103 := n0_; have HO124 := n1_; have HO130 := n2_; have HB := n3_; have HO136 := n4_; clear n0_ n1_ n2_ n3_ n4_; clear ho hb hg hat))
                                    all_goals go_ret
                                    all_goals exact ⟨_, by first | rfl | (simp [errW_none, errW_some] <;> rfl) | (simp [*, errW_none, errW_some] <;> rfl), by (with_reducible repeat (first | apply Kd.R_alloc | apply Kd.R_drewN | apply Kd.R_drew)); exact Kd.R_mono HO136.out (fun _ hk => trivial), by repeat (first | (with_reducible first | exact HB.out | apply below_alloc | apply pw_below_drewN | apply below_drew1 | refine below_set ?_ GE103.out) | exact HB.out)⟩
                                  · rw [if_neg c38] at H
                                    exact absurd H (by simp)
                                · rw [if_neg c37] at H
                                  exact absurd H (by simp)
                              · rw [if_neg c36] at H
                                have c36b0 : (a0_6.toList == ([] : List UInt8)) = false := beq_eq_false_iff_ne.mpr c36
                                have c36b1 : (a0_6.toList != ([] : List UInt8)) = true := bne_iff_ne.mpr c36
                                obtain ⟨y137, hy137⟩ : ∃ y_ : List ByteArray, y_ = (([(⟨#[45, 76]⟩ : ByteArray), a0_6] : List ByteArray)) := ⟨_, rfl⟩
                                replace H : (if y125.length + y137.length < 8796093022208 then ((some (y125 ++ y137 : List ByteArray)).bind fun y140 => ((some (([(⟨#[45, 101]⟩ : ByteArray), a0_4, (⟨#[45, 45]⟩ : ByteArray)] : List ByteArray) : List ByteArray)).bind fun y143 => (if y140.length + y143.length < 8796093022208 then ((some (y140 ++ y143 : List ByteArray)).bind fun y146 => (if y146.length + l0_7.length < 8796093022208 then (some (y146 ++ l0_7)) else (none))) else (none)))) else (none)) = some r := by first | (rw [hy137]; with_reducible exact H) | (have H2_ := (Option.bind_some _ _).symm.trans H; rw [hy137]; with_reducible exact H2_) | (have H2_ := (Option.bind_some _ _).symm.trans H; with_reducible exact H2_) | with_reducible exact H | (rw [hy137]; exact H) | exact H
                                have Ny137 := Aside0.mk hy137
                                clear hy137
                                by_cases c51 : y125.length + y137.length < 8796093022208
                                · rw [if_pos c51] at H
                                  have LMc51 := Aside0.mk c51
                                  clear c51
                                  obtain ⟨y140, hy140⟩ : ∃ y_ : List ByteArray, y_ = (y125 ++ y137) := ⟨_, rfl⟩
                                  replace H : ((some (([(⟨#[45, 101]⟩ : ByteArray), a0_4, (⟨#[45, 45]⟩ : ByteArray)] : List ByteArray) : List ByteArray)).bind fun y143 => (if y140.length + y143.length < 8796093022208 then ((some (y140 ++ y143 : List ByteArray)).bind fun y146 => (if y146.length + l0_7.length < 8796093022208 then (some (y146 ++ l0_7)) else (none))) else (none))) = some r := by first | (rw [hy140]; with_reducible exact H) | (have H2_ := (Option.bind_some _ _).symm.trans H; rw [hy140]; with_reducible exact H2_) | (have H2_ := (Option.bind_some _ _).symm.trans H; with_reducible exact H2_) | with_reducible exact H | (rw [hy140]; exact H) | exact H
                                  have Ny140 := Aside0.mk hy140
                                  clear hy140
                                  obtain ⟨y143, hy143⟩ : ∃ y_ : List ByteArray, y_ = (([(⟨#[45, 101]⟩ : ByteArray), a0_4, (⟨#[45, 45]⟩ : ByteArray)] : List ByteArray)) := ⟨_, rfl⟩
                                  replace H : (if y140.length + y143.length < 8796093022208 then ((some (y140 ++ y143 : List ByteArray)).bind fun y146 => (if y146.length + l0_7.length < 8796093022208 then (some (y146 ++ l0_7)) else (none))) else (none)) = some r := by first | (rw [hy143]; with_reducible exact H) | (have H2_ := (Option.bind_some _ _).symm.trans H; rw [hy143]; with_reducible exact H2_) | (have H2_ := (Option.bind_some _ _).symm.trans H; with_reducible exact H2_) | with_reducible exact H | (rw [hy143]; exact H) | exact H
                                  have Ny143 := Aside0.mk hy143
                                  clear hy143
                                  by_cases c52 : y140.length + y143.length < 8796093022208
                                  · rw [if_pos c52] at H
                                    have LMc52 := Aside0.mk c52
                                    clear c52
                                    obtain ⟨y146, hy146⟩ : ∃ y_ : List ByteArray, y_ = (y140 ++ y143) := ⟨_, rfl⟩
                                    replace H : (if y146.length + l0_7.length < 8796093022208 then (some (y146 ++ l0_7)) else (none)) = some r := by first | (rw [hy146]; with_reducible exact H) | (have H2_ := (Option.bind_some _ _).symm.trans H; rw [hy146]; with_reducible exact H2_) | (have H2_ := (Option.bind_some _ _).symm.trans H; with_reducible exact H2_) | with_reducible exact H | (rw [hy146]; exact H) | exact H
                                    have Ny146 := Aside0.mk hy146
                                    clear hy146
                                    by_cases c53 : y146.length + l0_7.length < 8796093022208
                                    · rw [if_pos c53] at H
                                      have LMc53 := Aside0.mk c53
                                      clear c53
                                      obtain ⟨y149, hy149⟩ : ∃ y_ : List ByteArray, y_ = (y146 ++ l0_7) := ⟨_, rfl⟩
                                      replace H : (some y149) = some r := by first | (rw [hy149]; with_reducible exact H) | (have H2_ := (Option.bind_some _ _).symm.trans H; rw [hy149]; with_reducible exact H2_) | (have H2_ := (Option.bind_some _ _).symm.trans H; with_reducible exact H2_) | with_reducible exact H | (rw [hy149]; exact H) | exact H
                                      have Ny149 := Aside0.mk hy149
                                      clear hy149
                                      obtain rfl := Option.some.inj H
                                      have hcz54_0 : wc.cell? ⟨gb103, 0, none⟩ = some (.bool a0_0) := (blk_cell BK103.out 0).trans rfl
                                      have hcz54_1 : wc.cell? ⟨gb103, 1, none⟩ = some (.bool a0_1) := (blk_cell BK103.out 1).trans rfl
                                      have hcz54_2 : wc.cell? ⟨gb103, 2, none⟩ = some (.bool a0_2) := (blk_cell BK103.out 2).trans rfl
                                      have hcz54_3 : wc.cell? ⟨gb103, 3, none⟩ = some (.bool a0_3) := (blk_cell BK103.out 3).trans rfl
                                      have hcz54_4 : wc.cell? ⟨gb103, 4, none⟩ = some (.string a0_4) := (blk_cell BK103.out 4).trans rfl
                                      have hcz54_5 : wc.cell? ⟨gb103, 5, none⟩ = some (.int .u8 a0_5) := (blk_cell BK103.out 5).trans rfl
                                      have hcz54_6 : wc.cell? ⟨gb103, 6, none⟩ = some (.string a0_6) := (blk_cell BK103.out 6).trans rfl
                                      have hcz54_7 : wc.cell? ⟨gb103, 7, none⟩ = some (.slice A0_7 l0_7.length c0_7) := (blk_cell BK103.out 7).trans rfl
                                      have hfz54_0 := blk_frozen BK103.out 0
                                      have hfz54_1 := blk_frozen BK103.out 1
                                      have hfz54_2 := blk_frozen BK103.out 2
                                      have hfz54_3 := blk_frozen BK103.out 3
                                      have hfz54_4 := blk_frozen BK103.out 4
                                      have hfz54_5 := blk_frozen BK103.out 5
                                      have hfz54_6 := blk_frozen BK103.out 6
                                      have hfz54_7 := blk_frozen BK103.out 7
                                      go_wp2_with (first | ((with_reducible refine gate_dst (N := 39) rfl ?_); refine Kd.R_lit Kd.string _ 9 ?hg (N := 39) ?hd (xs := ([(⟨#[45, 99]⟩ : ByteArray), (⟨#[108, 97, 116, 105, 110, 49]⟩ : ByteArray)] : List ByteArray)) (inner := [.string (⟨#[45, 99]⟩ : ByteArray), .string (⟨#[108, 97, 116, 105, 110, 49]⟩ : ByteArray)]) (ok := fun _ => True) (okp := fun _ => True) ?hr ?hp (fun _ hk => hk) trivial (Below.refl _ _) (Nat.le_refl _) (by simp) ?_; (case hd => rfl); (case hg => rfl); (case hr => first | (go_simp; done) | (go_simp; rfl)); (case hp => exact (Reps.one (show Kd.M Kd.string _ _ _ (⟨#[45, 99]⟩ : ByteArray) [.string (⟨#[45, 99]⟩ : ByteArray)] from rfl) (Reps.one (show Kd.M Kd.string _ _ _ (⟨#[108, 97, 116, 105, 110, 49]⟩ : ByteArray) [.string (⟨#[108, 97, 116, 105, 110, 49]⟩ : ByteArray)] from rfl) (Reps.none _ _)))); intro v123 w55 ho56 hb hg_ hnew_; clear hg_ hnew_; (first | rw [← Ny122.out] at ho56 | (simp only [Int.reduceToNat] at ho56; rw [← Ny122.out] at ho56)); have n0_ := Aside0.mk (Kd.R_elder' (by (with_reducible repeat (first | apply Kd.R_alloc | apply Kd.R_drewN | apply Kd.R_drew)); exact HO_3.out) (Kd.R_base ho56) hb); have n1_ := Aside0.mk (Kd.R_lower (Kd.R_new' ho56 (Kd.R_lt (by (with_reducible repeat (first | apply Kd.R_alloc | apply Kd.R_drewN | apply Kd.R_drew)); exact HO_3.out))) (below_size (by repeat (first | (with_reducible first | exact HB.out | apply below_alloc | apply pw_below_drewN | apply below_drew1 | refine below_set ?_ GE103.out) | exact HB.out)))); have n2_ := Aside0.mk (blk_below (g := gb103) (o := .cells #[.bool a0_0, .bool a0_1, .bool a0_2, .bool a0_3, .string a0_4, .int .u8 a0_5, .string a0_6, .slice A0_7 l0_7.length c0_7] 24 (0, 0)) (by (with_reducible repeat (first | refine blk_drewN ?_ _ | refine blk_drew ?_ | refine blk_alloc ?_ _)); exact BK103.out) hb); have n3_ := Aside0.mk (below_step (by repeat (first | (with_reducible first | exact HB.out | apply below_alloc | apply pw_below_drewN | apply below_drew1 | refine below_set ?_ GE103.out) | exact HB.out)) hb); clear HO_3; clear BK103; clear HB; have HO_3 := n0_; have HO124 := n1_; have BK103 := n2_; have HB := n3_; clear n0_ n1_ n2_ n3_; clear hb ho56; obtain ⟨Ao58, co58, eo58⟩ := Kd.R_slice HO124.out; subst eo58) | ((with_reducible refine gate_builtin (b := .append) (xs := #[.tmp 38, .tmp 39]) rfl ?_); at_builtin; refine Kd.R_append_rows Kd.string (w0 := w) w.heap.size rfl (.tmp 38) (.tmp 39) 22 9 (.string ⟨#[]⟩) 16 rfl Tryd.underlying22 info9 rfl (by decide) (by omega) u3 x3_25 y122 _ _ _ (fun k_ => some k_ ≠ (.slice Ao58 y122.length co58 : Value).ownBlock) (fun _ => False) rfl rfl ?aO ?aR (fun _ _ h => h) (fun _ h => h.elim) ?aF ?aB ?aS ?aL ?_; (case aR => repeat (first | exact (Kd.R_reads' HO124.out).2.2 | (with_reducible refine Kd.C_alloc ?_ _) | (with_reducible refine Kd.C_drewN ?_ _) | (with_reducible refine Kd.C_drew ?_))); (case aB => exact (by repeat (first | (with_reducible first | exact HB.out | apply below_alloc | apply pw_below_drewN | apply below_drew1 | refine below_set ?_ GE103.out) | exact HB.out))); (case aF => exact (fun k_ hk => Kd.fresh' (Kd.R_lt (by (with_reducible repeat (first | apply Kd.R_alloc | apply Kd.R_drewN | apply Kd.R_drew)); exact HO124.out)) k_ hk)); (case aO => exact (by (with_reducible repeat (first | apply Kd.R_alloc | apply Kd.R_drewN | apply Kd.R_drew)); exact Kd.R_mono HO_3.out (fun _ hk => hk.2))); (case aS => exact (below_size (by repeat (first | (with_reducible first | exact HB.out | apply below_alloc | apply pw_below_drewN | apply below_drew1 | refine below_set ?_ GE103.out) | exact HB.out)))); (case aL => have := LMc35.out; omega); intro v126 w57 ho hb hg hat; rw [← Ny125.out] at ho; have n0_ := Aside0.mk (blk_grown (g := gb103) (o := .cells #[.bool a0_0, .bool a0_1, .bool a0_2, .bool a0_3, .string a0_4, .int .u8 a0_5, .string a0_6, .slice A0_7 l0_7.length c0_7] 24 (0, 0)) (by (with_reducible repeat (first | refine blk_drewN ?_ _ | refine blk_drew ?_ | refine blk_alloc ?_ _)); exact BK103.out) hg (Kd.R_ne HO_3.out BK103.out (by decide))); have n1_ := Aside0.mk (Kd.R_after (ok := (fun _ => True)) (by (with_reducible repeat (first | apply Kd.R_alloc | apply Kd.R_drewN | apply Kd.R_drew)); exact HO124.out) hg hat); have n2_ := Aside0.mk (hb); have n3_ := Aside0.mk (ho); clear BK103; clear HO124; clear HB; clear HO_3; have BK103 := n0_; have HO124 := n1_; have HB := n2_; have HO127 := n3_; clear n0_ n1_ n2_ n3_; clear ho hb hg hat; have hcz59_0 : w57.cell? ⟨gb103, 0, none⟩ = some (.bool a0_0) := (blk_cell BK103.out 0).trans rfl; have hcz59_1 : w57.cell? ⟨gb103, 1, none⟩ = some (.bool a0_1) := (blk_cell BK103.out 1).trans rfl; have hcz59_2 : w57.cell? ⟨gb103, 2, none⟩ = some (.bool a0_2) := (blk_cell BK103.out 2).trans rfl; have hcz59_3 : w57.cell? ⟨gb103, 3, none⟩ = some (.bool a0_3) := (blk_cell BK103.out 3).trans rfl; have hcz59_4 : w57.cell? ⟨gb103, 4, none⟩ = some (.string a0_4) := (blk_cell BK103.out 4).trans rfl; have hcz59_5 : w57.cell? ⟨gb103, 5, none⟩ = some (.int .u8 a0_5) := (blk_cell BK103.out 5).trans rfl; have hcz59_6 : w57.cell? ⟨gb103, 6, none⟩ = some (.string a0_6) := (blk_cell BK103.out 6).trans rfl; have hcz59_7 : w57.cell? ⟨gb103, 7, none⟩ = some (.slice A0_7 l0_7.length c0_7) := (blk_cell BK103.out 7).trans rfl; have hfz59_0 := blk_frozen BK103.out 0; have hfz59_1 := blk_frozen BK103.out 1; have hfz59_2 := blk_frozen BK103.out 2; have hfz59_3 := blk_frozen BK103.out 3; have hfz59_4 := blk_frozen BK103.out 4; have hfz59_5 := blk_frozen BK103.out 5; have hfz59_6 := blk_frozen BK103.out 6; have hfz59_7 := blk_frozen BK103.out 7) | ((with_reducible refine gate_dst (N := 47) rfl ?_); refine Kd.R_lit Kd.string _ 9 ?hg (N := 47) ?hd (xs := ([(⟨#[45, 76]⟩ : ByteArray), a0_6] : List ByteArray)) (inner := [.string (⟨#[45, 76]⟩ : ByteArray), .string a0_6]) (ok := fun _ => True) (okp := fun _ => True) ?hr ?hp (fun _ hk => hk) trivial (Below.refl _ _) (Nat.le_refl _) (by simp) ?_; (case hd => rfl); (case hg => rfl); (case hr => first | (go_simp; done) | (go_simp; rfl)); (case hp => exact (Reps.one (show Kd.M Kd.string _ _ _ (⟨#[45, 76]⟩ : ByteArray) [.string (⟨#[45, 76]⟩ : ByteArray)] from rfl) (Reps.one (show Kd.M Kd.string _ _ _ a0_6 [.string a0_6] from rfl) (Reps.none _ _)))); intro v138 w60 ho61 hb hg_ hnew_; clear hg_ hnew_; (first | rw [← Ny137.out] at ho61 | (simp only [Int.reduceToNat] at ho61; rw [← Ny137.out] at ho61)); have n0_ := Aside0.mk (Kd.R_elder' (by (with_reducible repeat (first | apply Kd.R_alloc | apply Kd.R_drewN | apply Kd.R_drew)); exact HO124.out) (Kd.R_base ho61) hb); have n1_ := Aside0.mk (Kd.R_elder' (by (with_reducible repeat (first | apply Kd.R_alloc | apply Kd.R_drewN | apply Kd.R_drew)); exact HO127.out) (Kd.R_base ho61) hb); have n2_ := Aside0.mk (Kd.R_lower (Kd.R_new' (Kd.R_new' ho61 (Kd.R_lt (by (with_reducible repeat (first | apply Kd.R_alloc | apply Kd.R_drewN | apply Kd.R_drew)); exact HO124.out))) (Kd.R_lt (by (with_reducible repeat (first | apply Kd.R_alloc | apply Kd.R_drewN | apply Kd.R_drew)); exact HO127.out))) (below_size (by repeat (first | (with_reducible first | exact HB.out | apply below_alloc | apply pw_below_drewN | apply below_drew1 | refine below_set ?_ GE103.out) | exact HB.out)))); have n3_ := Aside0.mk (blk_below (g := gb103) (o := .cells #[.bool a0_0, .bool a0_1, .bool a0_2, .bool a0_3, .string a0_4, .int .u8 a0_5, .string a0_6, .slice A0_7 l0_7.length c0_7] 24 (0, 0)) (by (with_reducible repeat (first | refine blk_drewN ?_ _ | refine blk_drew ?_ | refine blk_alloc ?_ _)); exact BK103.out) hb); have n4_ := Aside0.mk (below_step (by repeat (first | (with_reducible first | exact HB.out | apply below_alloc | apply pw_below_drewN | apply below_drew1 | refine below_set ?_ GE103.out) | exact HB.out)) hb); clear HO124; clear HO127; clear BK103; clear HB; have HO124 := n0_; have HO127 := n1_; have HO139 := n2_; have BK103 := n3_; have HB := n4_; clear n0_ n1_ n2_ n3_ n4_; clear hb ho61; obtain ⟨Ao63, co63, eo63⟩ := Kd.R_slice HO139.out; subst eo63) | ((with_reducible refine gate_builtin (b := .append) (xs := #[.tmp 44, .tmp 47]) rfl ?_); at_builtin; refine Kd.R_append_rows Kd.string (w0 := w) w.heap.size rfl (.tmp 44) (.tmp 47) 22 9 (.string ⟨#[]⟩) 16 rfl Tryd.underlying22 info9 rfl (by decide) (by omega) v126 y125 y137 _ _ _ (fun k_ => some k_ ≠ (.slice Ao58 y122.length co58 : Value).ownBlock ∧ some k_ ≠ (.slice Ao63 y137.length co63 : Value).ownBlock) (fun _ => False) rfl rfl ?aO ?aR (fun _ _ h => h) (fun _ h => h.elim) ?aF ?aB ?aS ?aL ?_; (case aR => repeat (first | exact (Kd.R_reads' HO139.out).2.2 | (with_reducible refine Kd.C_alloc ?_ _) | (with_reducible refine Kd.C_drewN ?_ _) | (with_reducible refine Kd.C_drew ?_))); (case aB => exact (by repeat (first | (with_reducible first | exact HB.out | apply below_alloc | apply pw_below_drewN | apply below_drew1 | refine below_set ?_ GE103.out) | exact HB.out))); (case aF => exact (fun k_ hk => ⟨Kd.fresh' (Kd.R_lt (by (with_reducible repeat (first | apply Kd.R_alloc | apply Kd.R_drewN | apply Kd.R_drew)); exact HO124.out)) k_ hk, Kd.fresh' (Kd.R_lt (by (with_reducible repeat (first | apply Kd.R_alloc | apply Kd.R_drewN | apply Kd.R_drew)); exact HO139.out)) k_ hk⟩)); (case aO => exact (by (with_reducible repeat (first | apply Kd.R_alloc | apply Kd.R_drewN | apply Kd.R_drew)); exact HO127.out)); (case aS => exact (below_size (by repeat (first | (with_reducible first | exact HB.out | apply below_alloc | apply pw_below_drewN | apply below_drew1 | refine below_set ?_ GE103.out) | exact HB.out)))); (case aL => have := LMc51.out; omega); intro v141 w62 ho hb hg hat; rw [← Ny140.out] at ho; have n0_ := Aside0.mk (blk_grown (g := gb103) (o := .cells #[.bool a0_0, .bool a0_1, .bool a0_2, .bool a0_3, .string a0_4, .int .u8 a0_5, .string a0_6, .slice A0_7 l0_7.length c0_7] 24 (0, 0)) (by (with_reducible repeat (first | refine blk_drewN ?_ _ | refine blk_drew ?_ | refine blk_alloc ?_ _)); exact BK103.out) hg (Kd.R_ne HO127.out BK103.out (by decide))); have n1_ := Aside0.mk (Kd.R_after (ok := (fun k_ => some k_ ≠ (.slice Ao63 y137.length co63 : Value).ownBlock)) (by (with_reducible repeat (first | apply Kd.R_alloc | apply Kd.R_drewN | apply Kd.R_drew)); exact Kd.R_mono HO124.out (fun _ hk => ⟨hk.2, hk.1.2⟩)) hg hat); have n2_ := Aside0.mk (Kd.R_after (ok := (fun k_ => some k_ ≠ (.slice Ao58 y122.length co58 : Value).ownBlock)) (by (with_reducible repeat (first | apply Kd.R_alloc | apply Kd.R_drewN | apply Kd.R_drew)); exact Kd.R_mono HO139.out (fun _ hk => ⟨hk.1.2, hk.2⟩)) hg hat); have n3_ := Aside0.mk (hb); have n4_ := Aside0.mk (ho); clear BK103; clear HO124; clear HO139; clear HB; clear HO127; have BK103 := n0_; have HO124 := n1_; have HO139 := n2_; have HB := n3_; have HO142 := n4_; clear n0_ n1_ n2_ n3_ n4_; clear ho hb hg hat; have hcz64_0 : w62.cell? ⟨gb103, 0, none⟩ = some (.bool a0_0) := (blk_cell BK103.out 0).trans rfl; have hcz64_1 : w62.cell? ⟨gb103, 1, none⟩ = some (.bool a0_1) := (blk_cell BK103.out 1).trans rfl; have hcz64_2 : w62.cell? ⟨gb103, 2, none⟩ = some (.bool a0_2) := (blk_cell BK103.out 2).trans rfl; have hcz64_3 : w62.cell? ⟨gb103, 3, none⟩ = some (.bool a0_3) := (blk_cell BK103.out 3).trans rfl; have hcz64_4 : w62.cell? ⟨gb103, 4, none⟩ = some (.string a0_4) := (blk_cell BK103.out 4).trans rfl; have hcz64_5 : w62.cell? ⟨gb103, 5, none⟩ = some (.int .u8 a0_5) := (blk_cell BK103.out 5).trans rfl; have hcz64_6 : w62.cell? ⟨gb103, 6, none⟩ = some (.string a0_6) := (blk_cell BK103.out 6).trans rfl; have hcz64_7 : w62.cell? ⟨gb103, 7, none⟩ = some (.slice A0_7 l0_7.length c0_7) := (blk_cell BK103.out 7).trans rfl; have hfz64_0 := blk_frozen BK103.out 0; have hfz64_1 := blk_frozen BK103.out 1; have hfz64_2 := blk_frozen BK103.out 2; have hfz64_3 := blk_frozen BK103.out 3; have hfz64_4 := blk_frozen BK103.out 4; have hfz64_5 := blk_frozen BK103.out 5; have hfz64_6 := blk_frozen BK103.out 6; have hfz64_7 := blk_frozen BK103.out 7) | ((with_reducible refine gate_dst (N := 52) rfl ?_); refine Kd.R_lit Kd.string _ 9 ?hg (N := 52) ?hd (xs := ([(⟨#[45, 101]⟩ : ByteArray), a0_4, (⟨#[45, 45]⟩ : ByteArray)] : List ByteArray)) (inner := [.string (⟨#[45, 101]⟩ : ByteArray), .string a0_4, .string (⟨#[45, 45]⟩ : ByteArray)]) (ok := fun _ => True) (okp := fun _ => True) ?hr ?hp (fun _ hk => hk) trivial (Below.refl _ _) (Nat.le_refl _) (by simp) ?_; (case hd => rfl); (case hg => rfl); (case hr => first | (go_simp; done) | (go_simp; rfl)); (case hp => exact (Reps.one (show Kd.M Kd.string _ _ _ (⟨#[45, 101]⟩ : ByteArray) [.string (⟨#[45, 101]⟩ : ByteArray)] from rfl) (Reps.one (show Kd.M Kd.string _ _ _ a0_4 [.string a0_4] from rfl) (Reps.one (show Kd.M Kd.string _ _ _ (⟨#[45, 45]⟩ : ByteArray) [.string (⟨#[45, 45]⟩ : ByteArray)] from rfl) (Reps.none _ _))))); intro v144 w65 ho66 hb hg_ hnew_; clear hg_ hnew_; (first | rw [← Ny143.out] at ho66 | (simp only [Int.reduceToNat] at ho66; rw [← Ny143.out] at ho66)); have n0_ := Aside0.mk (Kd.R_elder' (by (with_reducible repeat (first | apply Kd.R_alloc | apply Kd.R_drewN | apply Kd.R_drew)); exact HO124.out) (Kd.R_base ho66) hb); have n1_ := Aside0.mk (Kd.R_elder' (by (with_reducible repeat (first | apply Kd.R_alloc | apply Kd.R_drewN | apply Kd.R_drew)); exact HO139.out) (Kd.R_base ho66) hb); have n2_ := Aside0.mk (Kd.R_elder' (by (with_reducible repeat (first | apply Kd.R_alloc | apply Kd.R_drewN | apply Kd.R_drew)); exact HO142.out) (Kd.R_base ho66) hb); have n3_ := Aside0.mk (Kd.R_lower (Kd.R_new' (Kd.R_new' (Kd.R_new' ho66 (Kd.R_lt (by (with_reducible repeat (first | apply Kd.R_alloc | apply Kd.R_drewN | apply Kd.R_drew)); exact HO124.out))) (Kd.R_lt (by (with_reducible repeat (first | apply Kd.R_alloc | apply Kd.R_drewN | apply Kd.R_drew)); exact HO139.out))) (Kd.R_lt (by (with_reducible repeat (first | apply Kd.R_alloc | apply Kd.R_drewN | apply Kd.R_drew)); exact HO142.out))) (below_size (by repeat (first | (with_reducible first | exact HB.out | apply below_alloc | apply pw_below_drewN | apply below_drew1 | refine below_set ?_ GE103.out) | exact HB.out)))); have n4_ := Aside0.mk (blk_below (g := gb103) (o := .cells #[.bool a0_0, .bool a0_1, .bool a0_2, .bool a0_3, .string a0_4, .int .u8 a0_5, .string a0_6, .slice A0_7 l0_7.length c0_7] 24 (0, 0)) (by (with_reducible repeat (first | refine blk_drewN ?_ _ | refine blk_drew ?_ | refine blk_alloc ?_ _)); exact BK103.out) hb); have n5_ := Aside0.mk (below_step (by repeat (first | (with_reducible first | exact HB.out | apply below_alloc | apply pw_below_drewN | apply below_drew1 | refine below_set ?_ GE103.out) | exact HB.out)) hb); clear HO124; clear HO139; clear HO142; clear BK103; clear HB; have HO124 := n0_; have HO139 := n1_; have HO142 := n2_; have HO145 := n3_; have BK103 := n4_; have HB := n5_; clear n0_ n1_ n2_ n3_ n4_ n5_; clear hb ho66; obtain ⟨Ao68, co68, eo68⟩ := Kd.R_slice HO145.out; subst eo68) | ((with_reducible refine gate_builtin (b := .append) (xs := #[.tmp 49, .tmp 52]) rfl ?_); at_builtin; refine Kd.R_append_rows Kd.string (w0 := w) w.heap.size rfl (.tmp 49) (.tmp 52) 22 9 (.string ⟨#[]⟩) 16 rfl Tryd.underlying22 info9 rfl (by decide) (by omega) v141 y140 y143 _ _ _ (fun k_ => some k_ ≠ (.slice Ao58 y122.length co58 : Value).ownBlock ∧ some k_ ≠ (.slice Ao63 y137.length co63 : Value).ownBlock ∧ some k_ ≠ (.slice Ao68 y143.length co68 : Value).ownBlock) (fun _ => False) rfl rfl ?aO ?aR (fun _ _ h => h) (fun _ h => h.elim) ?aF ?aB ?aS ?aL ?_; (case aR => repeat (first | exact (Kd.R_reads' HO145.out).2.2 | (with_reducible refine Kd.C_alloc ?_ _) | (with_reducible refine Kd.C_drewN ?_ _) | (with_reducible refine Kd.C_drew ?_))); (case aB => exact (by repeat (first | (with_reducible first | exact HB.out | apply below_alloc | apply pw_below_drewN | apply below_drew1 | refine below_set ?_ GE103.out) | exact HB.out))); (case aF => exact (fun k_ hk => ⟨Kd.fresh' (Kd.R_lt (by (with_reducible repeat (first | apply Kd.R_alloc | apply Kd.R_drewN | apply Kd.R_drew)); exact HO124.out)) k_ hk, Kd.fresh' (Kd.R_lt (by (with_reducible repeat (first | apply Kd.R_alloc | apply Kd.R_drewN | apply Kd.R_drew)); exact HO139.out)) k_ hk, Kd.fresh' (Kd.R_lt (by (with_reducible repeat (first | apply Kd.R_alloc | apply Kd.R_drewN | apply Kd.R_drew)); exact HO145.out)) k_ hk⟩)); (case aO => exact (by (with_reducible repeat (first | apply Kd.R_alloc | apply Kd.R_drewN | apply Kd.R_drew)); exact Kd.R_mono HO142.out (fun _ hk => ⟨hk.1.1, ⟨hk.1.2, hk.2⟩⟩))); (case aS => exact (below_size (by repeat (first | (with_reducible first | exact HB.out | apply below_alloc | apply pw_below_drewN | apply below_drew1 | refine below_set ?_ GE103.out) | exact HB.out)))); (case aL => have := LMc52.out; omega); intro v147 w67 ho hb hg hat; rw [← Ny146.out] at ho; have n0_ := Aside0.mk (blk_grown (g := gb103) (o := .cells #[.bool a0_0, .bool a0_1, .bool a0_2, .bool a0_3, .string a0_4, .int .u8 a0_5, .string a0_6, .slice A0_7 l0_7.length c0_7] 24 (0, 0)) (by (with_reducible repeat (first | refine blk_drewN ?_ _ | refine blk_drew ?_ | refine blk_alloc ?_ _)); exact BK103.out) hg (Kd.R_ne HO142.out BK103.out (by decide))); have n1_ := Aside0.mk (Kd.R_after (ok := (fun k_ => some k_ ≠ (.slice Ao63 y137.length co63 : Value).ownBlock ∧ some k_ ≠ (.slice Ao68 y143.length co68 : Value).ownBlock)) (by (with_reducible repeat (first | apply Kd.R_alloc | apply Kd.R_drewN | apply Kd.R_drew)); exact Kd.R_mono HO124.out (fun _ hk => ⟨⟨hk.1.1, hk.2⟩, hk.1.2⟩)) hg hat); have n2_ := Aside0.mk (Kd.R_after (ok := (fun k_ => some k_ ≠ (.slice Ao58 y122.length co58 : Value).ownBlock ∧ some k_ ≠ (.slice Ao68 y143.length co68 : Value).ownBlock)) (by (with_reducible repeat (first | apply Kd.R_alloc | apply Kd.R_drewN | apply Kd.R_drew)); exact Kd.R_mono HO139.out (fun _ hk => ⟨⟨hk.1.1, hk.2⟩, hk.1.2⟩)) hg hat); have n3_ := Aside0.mk (Kd.R_after (ok := (fun k_ => some k_ ≠ (.slice Ao58 y122.length co58 : Value).ownBlock ∧ some k_ ≠ (.slice Ao63 y137.length co63 : Value).ownBlock)) (by (with_reducible repeat (first | apply Kd.R_alloc | apply Kd.R_drewN | apply Kd.R_drew)); exact Kd.R_mono HO145.out (fun _ hk => ⟨⟨hk.1.1.2, hk.1.2⟩, hk.2⟩)) hg hat); have n4_ := Aside0.mk (hb); have n5_ := Aside0.mk (ho); clear BK103; clear HO124; clear HO139; clear HO145; clear HB; clear HO142; have BK103 := n0_; have HO124 := n1_; have HO139 := n2_; have HO145 := n3_; have HB := n4_; have HO148 := n5_; clear n0_ n1_ n2_ n3_ n4_ n5_; clear ho hb hg hat; have hcz69_0 : w67.cell? ⟨gb103, 0, none⟩ = some (.bool a0_0) := (blk_cell BK103.out 0).trans rfl; have hcz69_1 : w67.cell? ⟨gb103, 1, none⟩ = some (.bool a0_1) := (blk_cell BK103.out 1).trans rfl; have hcz69_2 : w67.cell? ⟨gb103, 2, none⟩ = some (.bool a0_2) := (blk_cell BK103.out 2).trans rfl; have hcz69_3 : w67.cell? ⟨gb103, 3, none⟩ = some (.bool a0_3) := (blk_cell BK103.out 3).trans rfl; have hcz69_4 : w67.cell? ⟨gb103, 4, none⟩ = some (.string a0_4) := (blk_cell BK103.out 4).trans rfl; have hcz69_5 : w67.cell? ⟨gb103, 5, none⟩ = some (.int .u8 a0_5) := (blk_cell BK103.out 5).trans rfl; have hcz69_6 : w67.cell? ⟨gb103, 6, none⟩ = some (.string a0_6) := (blk_cell BK103.out 6).trans rfl; have hcz69_7 : w67.cell? ⟨gb103, 7, none⟩ = some (.slice A0_7 l0_7.length c0_7) := (blk_cell BK103.out 7).trans rfl; have hfz69_0 := blk_frozen BK103.out 0; have hfz69_1 := blk_frozen BK103.out 1; have hfz69_2 := blk_frozen BK103.out 2; have hfz69_3 := blk_frozen BK103.out 3; have hfz69_4 := blk_frozen BK103.out 4; have hfz69_5 := blk_frozen BK103.out 5; have hfz69_6 := blk_frozen BK103.out 6; have hfz69_7 := blk_frozen BK103.out 7) | ((with_reducible refine gate_builtin (b := .append) (xs := #[.tmp 54, .tmp 56]) rfl ?_); at_builtin; refine Kd.R_append_rows Kd.string (w0 := w) w.heap.size rfl (.tmp 54) (.tmp 56) 22 9 (.string ⟨#[]⟩) 16 rfl Tryd.underlying22 info9 rfl (by decide) (by omega) v147 y146 l0_7 _ _ _ (fun k_ => some k_ ≠ (.slice Ao58 y122.length co58 : Value).ownBlock ∧ some k_ ≠ (.slice Ao63 y137.length co63 : Value).ownBlock ∧ some k_ ≠ (.slice Ao68 y143.length co68 : Value).ownBlock) (fun _ => False) rfl rfl ?aO ?aR (fun _ _ h => h) (fun _ h => h.elim) ?aF ?aB ?aS ?aL ?_; (case aR => repeat (first | exact (Kd.C_below HR0_7.out HB.out) | (with_reducible refine Kd.C_alloc ?_ _) | (with_reducible refine Kd.C_drewN ?_ _) | (with_reducible refine Kd.C_drew ?_))); (case aB => exact (by repeat (first | (with_reducible first | exact HB.out | apply below_alloc | apply pw_below_drewN | apply below_drew1 | refine below_set ?_ GE103.out) | exact HB.out))); (case aF => exact (fun k_ hk => ⟨Kd.fresh' (Kd.R_lt (by (with_reducible repeat (first | apply Kd.R_alloc | apply Kd.R_drewN | apply Kd.R_drew)); exact HO124.out)) k_ hk, Kd.fresh' (Kd.R_lt (by (with_reducible repeat (first | apply Kd.R_alloc | apply Kd.R_drewN | apply Kd.R_drew)); exact HO139.out)) k_ hk, Kd.fresh' (Kd.R_lt (by (with_reducible repeat (first | apply Kd.R_alloc | apply Kd.R_drewN | apply Kd.R_drew)); exact HO145.out)) k_ hk⟩)); (case aO => exact (by (with_reducible repeat (first | apply Kd.R_alloc | apply Kd.R_drewN | apply Kd.R_drew)); exact HO148.out)); (case aS => exact (below_size (by repeat (first | (with_reducible first | exact HB.out | apply below_alloc | apply pw_below_drewN | apply below_drew1 | refine below_set ?_ GE103.out) | exact HB.out)))); (case aL => have := LMc53.out; omega); intro v150 w70 ho hb hg hat; rw [← Ny149.out] at ho; have n0_ := Aside0.mk (blk_grown (g := gb103) (o := .cells #[.bool a0_0, .bool a0_1, .bool a0_2, .bool a0_3, .string a0_4, .int .u8 a0_5, .string a0_6, .slice A0_7 l0_7.length c0_7] 24 (0, 0)) (by (with_reducible repeat (first | refine blk_drewN ?_ _ | refine blk_drew ?_ | refine blk_alloc ?_ _)); exact BK103.out) hg (Kd.R_ne HO148.out BK103.out (by decide))); have n1_ := Aside0.mk (Kd.R_after (ok := (fun k_ => some k_ ≠ (.slice Ao63 y137.length co63 : Value).ownBlock ∧ some k_ ≠ (.slice Ao68 y143.length co68 : Value).ownBlock)) (by (with_reducible repeat (first | apply Kd.R_alloc | apply Kd.R_drewN | apply Kd.R_drew)); exact HO124.out) hg hat); have n2_ := Aside0.mk (Kd.R_after (ok := (fun k_ => some k_ ≠ (.slice Ao58 y122.length co58 : Value).ownBlock ∧ some k_ ≠ (.slice Ao68 y143.length co68 : Value).ownBlock)) (by (with_reducible repeat (first | apply Kd.R_alloc | apply Kd.R_drewN | apply Kd.R_drew)); exact HO139.out) hg hat); have n3_ := Aside0.mk (Kd.R_after (ok := (fun k_ => some k_ ≠ (.slice Ao58 y122.length co58 : Value).ownBlock ∧ some k_ ≠ (.slice Ao63 y137.length co63 : Value).ownBlock)) (by (with_reducible repeat (first | apply Kd.R_alloc | apply Kd.R_drewN | apply Kd.R_drew)); exact HO145.out) hg hat); have n4_ := Aside0.mk (hb); have n5_ := Aside0.mk (ho); clear BK103; clear HO124; clear HO139; clear HO145; clear HB; clear HO148; have BK103 := n0_; have HO124 := n1_; have HO139 := n2_; have HO145 := n3_; have HB := n4_; have HO151 := n5_; clear n0_ n1_ n2_ n3_ n4_ n5_; clear ho hb hg hat))
                                      all_goals go_ret
                                      all_goals exact ⟨_, by first | rfl | (simp [errW_none, errW_some] <;> rfl) | (simp [*, errW_none, errW_some] <;> rfl), by (with_reducible repeat (first | apply Kd.R_alloc | apply Kd.R_drewN | apply Kd.R_drew)); exact Kd.R_mono HO151.out (fun _ hk => trivial), by repeat (first | (with_reducible first | exact HB.out | apply below_alloc | apply pw_below_drewN | apply below_drew1 | refine below_set ?_ GE103.out) | exact HB.out)⟩
                                    · rw [if_neg c53] at H
                                      exact absurd H (by simp)
                                  · rw [if_neg c52] at H
                                    exact absurd H (by simp)
                                · rw [if_neg c51] at H
                                  exact absurd H (by simp)
                            · rw [if_neg c35] at H
                              exact absurd H (by simp)
                          · rw [if_neg c34] at H
                            have c34b0 : (a0_5 == 3) = false := beq_eq_false_iff_ne.mpr c34
                            have c34b1 : (a0_5 != 3) = true := bne_iff_ne.mpr c34
                            by_cases c71 : a0_6.toList = ([] : List UInt8)
                            · rw [if_pos c71] at H
                              have c71b0 : (a0_6.toList == ([] : List UInt8)) = true := beq_iff_eq.mpr c71
                              have c71b1 : (a0_6.toList != ([] : List UInt8)) = false := bne_eq_false_iff_eq.mpr c71
                              clear c71
                              obtain ⟨y152, hy152⟩ : ∃ y_ : List ByteArray, y_ = (([(⟨#[45, 101]⟩ : ByteArray), a0_4, (⟨#[45, 45]⟩ : ByteArray)] : List ByteArray)) := ⟨_, rfl⟩
                              replace H : (if x3_25.length + y152.length < 8796093022208 then ((some (x3_25 ++ y152 : List ByteArray)).bind fun y155 => (if y155.length + l0_7.length < 8796093022208 then (some (y155 ++ l0_7)) else (none))) else (none)) = some r := by first | (rw [hy152]; with_reducible exact H) | (have H2_ := (Option.bind_some _ _).symm.trans H; rw [hy152]; with_reducible exact H2_) | (have H2_ := (Option.bind_some _ _).symm.trans H; with_reducible exact H2_) | with_reducible exact H | (rw [hy152]; exact H) | exact H
                              have Ny152 := Aside0.mk hy152
                              clear hy152
                              by_cases c72 : x3_25.length + y152.length < 8796093022208
                              · rw [if_pos c72] at H
                                have LMc72 := Aside0.mk c72
                                clear c72
                                obtain ⟨y155, hy155⟩ : ∃ y_ : List ByteArray, y_ = (x3_25 ++ y152) := ⟨_, rfl⟩
                                replace H : (if y155.length + l0_7.length < 8796093022208 then (some (y155 ++ l0_7)) else (none)) = some r := by first | (rw [hy155]; with_reducible exact H) | (have H2_ := (Option.bind_some _ _).symm.trans H; rw [hy155]; with_reducible exact H2_) | (have H2_ := (Option.bind_some _ _).symm.trans H; with_reducible exact H2_) | with_reducible exact H | (rw [hy155]; exact H) | exact H
                                have Ny155 := Aside0.mk hy155
                                clear hy155
                                by_cases c73 : y155.length + l0_7.length < 8796093022208
                                · rw [if_pos c73] at H
                                  have LMc73 := Aside0.mk c73
                                  clear c73
                                  obtain ⟨y158, hy158⟩ : ∃ y_ : List ByteArray, y_ = (y155 ++ l0_7) := ⟨_, rfl⟩
                                  replace H : (some y158) = some r := by first | (rw [hy158]; with_reducible exact H) | (have H2_ := (Option.bind_some _ _).symm.trans H; rw [hy158]; with_reducible exact H2_) | (have H2_ := (Option.bind_some _ _).symm.trans H; with_reducible exact H2_) | with_reducible exact H | (rw [hy158]; exact H) | exact H
                                  have Ny158 := Aside0.mk hy158
                                  clear hy158
                                  obtain rfl := Option.some.inj H
                                  have hcz74_0 : wc.cell? ⟨gb103, 0, none⟩ = some (.bool a0_0) := (blk_cell BK103.out 0).trans rfl
                                  have hcz74_1 : wc.cell? ⟨gb103, 1, none⟩ = some (.bool a0_1) := (blk_cell BK103.out 1).trans rfl
                                  have hcz74_2 : wc.cell? ⟨gb103, 2, none⟩ = some (.bool a0_2) := (blk_cell BK103.out 2).trans rfl
                                  have hcz74_3 : wc.cell? ⟨gb103, 3, none⟩ = some (.bool a0_3) := (blk_cell BK103.out 3).trans rfl
                                  have hcz74_4 : wc.cell? ⟨gb103, 4, none⟩ = some (.string a0_4) := (blk_cell BK103.out 4).trans rfl
                                  have hcz74_5 : wc.cell? ⟨gb103, 5, none⟩ = some (.int .u8 a0_5) := (blk_cell BK103.out 5).trans rfl
                                  have hcz74_6 : wc.cell? ⟨gb103, 6, none⟩ = some (.string a0_6) := (blk_cell BK103.out 6).trans rfl
                                  have hcz74_7 : wc.cell? ⟨gb103, 7, none⟩ = some (.slice A0_7 l0_7.length c0_7) := (blk_cell BK103.out 7).trans rfl
                                  have hfz74_0 := blk_frozen BK103.out 0
                                  have hfz74_1 := blk_frozen BK103.out 1
                                  have hfz74_2 := blk_frozen BK103.out 2
                                  have hfz74_3 := blk_frozen BK103.out 3
                                  have hfz74_4 := blk_frozen BK103.out 4
                                  have hfz74_5 := blk_frozen BK103.out 5
                                  have hfz74_6 := blk_frozen BK103.out 6
                                  have hfz74_7 := blk_frozen BK103.out 7
                                  go_wp2_with (first | ((with_reducible refine gate_dst (N := 52) rfl ?_); refine Kd.R_lit Kd.string _ 9 ?hg (N := 52) ?hd (xs := ([(⟨#[45, 101]⟩ : ByteArray), a0_4, (⟨#[45, 45]⟩ : ByteArray)] : List ByteArray)) (inner := [.string (⟨#[45, 101]⟩ : ByteArray), .string a0_4, .string (⟨#[45, 45]⟩ : ByteArray)]) (ok := fun _ => True) (okp := fun _ => True) ?hr ?hp (fun _ hk => hk) trivial (Below.refl _ _) (Nat.le_refl _) (by simp) ?_; (case hd => rfl); (case hg => rfl); (case hr => first | (go_simp; done) | (go_simp; rfl)); (case hp => exact (Reps.one (show Kd.M Kd.string _ _ _ (⟨#[45, 101]⟩ : ByteArray) [.string (⟨#[45, 101]⟩ : ByteArray)] from rfl) (Reps.one (show Kd.M Kd.string _ _ _ a0_4 [.string a0_4] from rfl) (Reps.one (show Kd.M Kd.string _ _ _ (⟨#[45, 45]⟩ : ByteArray) [.string (⟨#[45, 45]⟩ : ByteArray)] from rfl) (Reps.none _ _))))); intro v153 w75 ho76 hb hg_ hnew_; clear hg_ hnew_; (first | rw [← Ny152.out] at ho76 | (simp only [Int.reduceToNat] at ho76; rw [← Ny152.out] at ho76)); have n0_ := Aside0.mk (Kd.R_elder' (by (with_reducible repeat (first | apply Kd.R_alloc | apply Kd.R_drewN | apply Kd.R_drew)); exact HO_3.out) (Kd.R_base ho76) hb); have n1_ := Aside0.mk (Kd.R_lower (Kd.R_new' ho76 (Kd.R_lt (by (with_reducible repeat (first | apply Kd.R_alloc | apply Kd.R_drewN | apply Kd.R_drew)); exact HO_3.out))) (below_size (by repeat (first | (with_reducible first | exact HB.out | apply below_alloc | apply pw_below_drewN | apply below_drew1 | refine below_set ?_ GE103.out) | exact HB.out)))); have n2_ := Aside0.mk (blk_below (g := gb103) (o := .cells #[.bool a0_0, .bool a0_1, .bool a0_2, .bool a0_3, .string a0_4, .int .u8 a0_5, .string a0_6, .slice A0_7 l0_7.length c0_7] 24 (0, 0)) (by (with_reducible repeat (first | refine blk_drewN ?_ _ | refine blk_drew ?_ | refine blk_alloc ?_ _)); exact BK103.out) hb); have n3_ := Aside0.mk (below_step (by repeat (first | (with_reducible first | exact HB.out | apply below_alloc | apply pw_below_drewN | apply below_drew1 | refine below_set ?_ GE103.out) | exact HB.out)) hb); clear HO_3; clear BK103; clear HB; have HO_3 := n0_; have HO154 := n1_; have BK103 := n2_; have HB := n3_; clear n0_ n1_ n2_ n3_; clear hb ho76; obtain ⟨Ao78, co78, eo78⟩ := Kd.R_slice HO154.out; subst eo78) | ((with_reducible refine gate_builtin (b := .append) (xs := #[.tmp 49, .tmp 52]) rfl ?_); at_builtin; refine Kd.R_append_rows Kd.string (w0 := w) w.heap.size rfl (.tmp 49) (.tmp 52) 22 9 (.string ⟨#[]⟩) 16 rfl Tryd.underlying22 info9 rfl (by decide) (by omega) u3 x3_25 y152 _ _ _ (fun k_ => some k_ ≠ (.slice Ao78 y152.length co78 : Value).ownBlock) (fun _ => False) rfl rfl ?aO ?aR (fun _ _ h => h) (fun _ h => h.elim) ?aF ?aB ?aS ?aL ?_; (case aR => repeat (first | exact (Kd.R_reads' HO154.out).2.2 | (with_reducible refine Kd.C_alloc ?_ _) | (with_reducible refine Kd.C_drewN ?_ _) | (with_reducible refine Kd.C_drew ?_))); (case aB => exact (by repeat (first | (with_reducible first | exact HB.out | apply below_alloc | apply pw_below_drewN | apply below_drew1 | refine below_set ?_ GE103.out) | exact HB.out))); (case aF => exact (fun k_ hk => Kd.fresh' (Kd.R_lt (by (with_reducible repeat (first | apply Kd.R_alloc | apply Kd.R_drewN | apply Kd.R_drew)); exact HO154.out)) k_ hk)); (case aO => exact (by (with_reducible repeat (first | apply Kd.R_alloc | apply Kd.R_drewN | apply Kd.R_drew)); exact Kd.R_mono HO_3.out (fun _ hk => hk.2))); (case aS => exact (below_size (by repeat (first | (with_reducible first | exact HB.out | apply below_alloc | apply pw_below_drewN | apply below_drew1 | refine below_set ?_ GE103.out) | exact HB.out)))); (case aL => have := LMc72.out; omega); intro v156 w77 ho hb hg hat; rw [← Ny155.out] at ho; have n0_ := Aside0.mk (blk_grown (g := gb103) (o := .cells #[.bool a0_0, .bool a0_1, .bool a0_2, .bool a0_3, .string a0_4, .int .u8 a0_5, .string a0_6, .slice A0_7 l0_7.length c0_7] 24 (0, 0)) (by (with_reducible repeat (first | refine blk_drewN ?_ _ | refine blk_drew ?_ | refine blk_alloc ?_ _)); exact BK103.out) hg (Kd.R_ne HO_3.out BK103.out (by decide))); have n1_ := Aside0.mk (Kd.R_after (ok := (fun _ => True)) (by (with_reducible repeat (first | apply Kd.R_alloc | apply Kd.R_drewN | apply Kd.R_drew)); exact HO154.out) hg hat); have n2_ := Aside0.mk (hb); have n3_ := Aside0.mk (ho); clear BK103; clear HO154; clear HB; clear HO_3; have BK103 := n0_; have HO154 := n1_; have HB := n2_; have HO157 := n3_; clear n0_ n1_ n2_ n3_; clear ho hb hg hat; have hcz79_0 : w77.cell? ⟨gb103, 0, none⟩ = some (.bool a0_0) := (blk_cell BK103.out 0).trans rfl; have hcz79_1 : w77.cell? ⟨gb103, 1, none⟩ = some (.bool a0_1) := (blk_cell BK103.out 1).trans rfl; have hcz79_2 : w77.cell? ⟨gb103, 2, none⟩ = some (.bool a0_2) := (blk_cell BK103.out 2).trans rfl; have hcz79_3 : w77.cell? ⟨gb103, 3, none⟩ = some (.bool a0_3) := (blk_cell BK103.out 3).trans rfl; have hcz79_4 : w77.cell? ⟨gb103, 4, none⟩ = some (.string a0_4) := (blk_cell BK103.out 4).trans rfl; have hcz79_5 : w77.cell? ⟨gb103, 5, none⟩ = some (.int .u8 a0_5) := (blk_cell BK103.out 5).trans rfl; have hcz79_6 : w77.cell? ⟨gb103, 6, none⟩ = some (.string a0_6) := (blk_cell BK103.out 6).trans rfl; have hcz79_7 : w77.cell? ⟨gb103, 7, none⟩ = some (.slice A0_7 l0_7.length c0_7) := (blk_cell BK103.out 7).trans rfl; have hfz79_0 := blk_frozen BK103.out 0; have hfz79_1 := blk_frozen BK103.out 1; have hfz79_2 := blk_frozen BK103.out 2; have hfz79_3 := blk_frozen BK103.out 3; have hfz79_4 := blk_frozen BK103.out 4; have hfz79_5 := blk_frozen BK103.out 5; have hfz79_6 := blk_frozen BK103.out 6; have hfz79_7 := blk_frozen BK103.out 7) | ((with_reducible refine gate_builtin (b := .append) (xs := #[.tmp 54, .tmp 56]) rfl ?_); at_builtin; refine Kd.R_append_rows Kd.string (w0 := w) w.heap.size rfl (.tmp 54) (.tmp 56) 22 9 (.string ⟨#[]⟩) 16 rfl Tryd.underlying22 info9 rfl (by decide) (by omega) v156 y155 l0_7 _ _ _ (fun k_ => some k_ ≠ (.slice Ao78 y152.length co78 : Value).ownBlock) (fun _ => False) rfl rfl ?aO ?aR (fun _ _ h => h) (fun _ h => h.elim) ?aF ?aB ?aS ?aL ?_; (case aR => repeat (first | exact (Kd.C_below HR0_7.out HB.out) | (with_reducible refine Kd.C_alloc ?_ _) | (with_reducible refine Kd.C_drewN ?_ _) | (with_reducible refine Kd.C_drew ?_))); (case aB => exact (by repeat (first | (with_reducible first | exact HB.out | apply below_alloc | apply pw_below_drewN | apply below_drew1 | refine below_set ?_ GE103.out) | exact HB.out))); (case aF => exact (fun k_ hk => Kd.fresh' (Kd.R_lt (by (with_reducible repeat (first | apply Kd.R_alloc | apply Kd.R_drewN | apply Kd.R_drew)); exact HO154.out)) k_ hk)); (case aO => exact (by (with_reducible repeat (first | apply Kd.R_alloc | apply Kd.R_drewN | apply Kd.R_drew)); exact HO157.out)); (case aS => exact (below_size (by repeat (first | (with_reducible first | exact HB.out | apply below_alloc | apply pw_below_drewN | apply below_drew1 | refine below_set ?_ GE103.out) | exact HB.out)))); (case aL => have := LMc73.out; omega); intro v159 w80 ho hb hg hat; rw [← Ny158.out] at ho; have n0_ := Aside0.mk (blk_grown (g := gb103) (o := .cells #[.bool a0_0, .bool a0_1, .bool a0_2, .bool a0_3, .string a0_4, .int .u8 a0_5, .string a0_6, .slice A0_7 l0_7.length c0_7] 24 (0, 0)) (by (with_reducible repeat (first | refine blk_drewN ?_ _ | refine blk_drew ?_ | refine blk_alloc ?_ _)); exact BK103.out) hg (Kd.R_ne HO157.out BK103.out (by decide))); have n1_ := Aside0.mk (Kd.R_after (ok := (fun _ => True)) (by (with_reducible repeat (first | apply Kd.R_alloc | apply Kd.R_drewN | apply Kd.R_drew)); exact HO154.out) hg hat); have n2_ := Aside0.mk (hb); have n3_ := Aside0.mk (ho); clear BK103; clear HO154; clear HB; clear HO157; have BK103 := n0_; have HO154 := n1_; have HB := n2_; have HO160 := n3_; clear n0_ n1_ n2_ n3_; clear ho hb hg hat))
                                  all_goals go_ret
                                  all_goals exact ⟨_, by first | rfl | (simp [errW_none, errW_some] <;> rfl) | (simp [*, errW_none, errW_some] <;> rfl), by (with_reducible repeat (first | apply Kd.R_alloc | apply Kd.R_drewN | apply Kd.R_drew)); exact Kd.R_mono HO160.out (fun _ hk => trivial), by repeat (first | (with_reducible first | exact HB.out | apply below_alloc | apply pw_below_drewN | apply below_drew1 | refine below_set ?_ GE103.out) | exact HB.out)⟩
                                · rw [if_neg c73] at H
                                  exact absurd H (by simp)
                              · rw [if_neg c72] at H
                                exact absurd H (by simp)
                            · rw [if_neg c71] at H
                              have c71b0 : (a0_6.toList == ([] : List UInt8)) = false := beq_eq_false_iff_ne.mpr c71
                              have c71b1 : (a0_6.toList != ([] : List UInt8)) = true := bne_iff_ne.mpr c71
                              obtain ⟨y161, hy161⟩ : ∃ y_ : List ByteArray, y_ = (([(⟨#[45, 76]⟩ : ByteArray), a0_6] : List ByteArray)) := ⟨_, rfl⟩
                              replace H : (if x3_25.length + y161.length < 8796093022208 then ((some (x3_25 ++ y161 : List ByteArray)).bind fun y164 => ((some (([(⟨#[45, 101]⟩ : ByteArray), a0_4, (⟨#[45, 45]⟩ : ByteArray)] : List ByteArray) : List ByteArray)).bind fun y167 => (if y164.length + y167.length < 8796093022208 then ((some (y164 ++ y167 : List ByteArray)).bind fun y170 => (if y170.length + l0_7.length < 8796093022208 then (some (y170 ++ l0_7)) else (none))) else (none)))) else (none)) = some r := by first | (rw [hy161]; with_reducible exact H) | (have H2_ := (Option.bind_some _ _).symm.trans H; rw [hy161]; with_reducible exact H2_) | (have H2_ := (Option.bind_some _ _).symm.trans H; with_reducible exact H2_) | with_reducible exact H | (rw [hy161]; exact H) | exact H
                              have Ny161 := Aside0.mk hy161
                              clear hy161
                              by_cases c81 : x3_25.length + y161.length < 8796093022208
                              · rw [if_pos c81] at H
                                have LMc81 := Aside0.mk c81
                                clear c81
                                obtain ⟨y164, hy164⟩ : ∃ y_ : List ByteArray, y_ = (x3_25 ++ y161) := ⟨_, rfl⟩
                                replace H : ((some (([(⟨#[45, 101]⟩ : ByteArray), a0_4, (⟨#[45, 45]⟩ : ByteArray)] : List ByteArray) : List ByteArray)).bind fun y167 => (if y164.length + y167.length < 8796093022208 then ((some (y164 ++ y167 : List ByteArray)).bind fun y170 => (if y170.length + l0_7.length < 8796093022208 then (some (y170 ++ l0_7)) else (none))) else (none))) = some r := by first | (rw [hy164]; with_reducible exact H) | (have H2_ := (Option.bind_some _ _).symm.trans H; rw [hy164]; with_reducible exact H2_) | (have H2_ := (Option.bind_some _ _).symm.trans H; with_reducible exact H2_) | with_reducible exact H | (rw [hy164]; exact H) | exact H
                                have Ny164 := Aside0.mk hy164
                                clear hy164
                                obtain ⟨y167, hy167⟩ : ∃ y_ : List ByteArray, y_ = (([(⟨#[45, 101]⟩ : ByteArray), a0_4, (⟨#[45, 45]⟩ : ByteArray)] : List ByteArray)) := ⟨_, rfl⟩
                                replace H : (if y164.length + y167.length < 8796093022208 then ((some (y164 ++ y167 : List ByteArray)).bind fun y170 => (if y170.length + l0_7.length < 8796093022208 then (some (y170 ++ l0_7)) else (none))) else (none)) = some r := by first | (rw [hy167]; with_reducible exact H) | (have H2_ := (Option.bind_some _ _).symm.trans H; rw [hy167]; with_reducible exact H2_) | (have H2_ := (Option.bind_some _ _).symm.trans H; with_reducible exact H2_) | with_reducible exact H | (rw [hy167]; exact H) | exact H
                                have Ny167 := Aside0.mk hy167
                                clear hy167
                                by_cases c82 : y164.length + y167.length < 8796093022208
                                · rw [if_pos c82] at H
                                  have LMc82 := Aside0.mk c82
                                  clear c82
                                  obtain ⟨y170, hy170⟩ : ∃ y_ : List ByteArray, y_ = (y164 ++ y167) := ⟨_, rfl⟩
                                  replace H : (if y170.length + l0_7.length < 8796093022208 then (some (y170 ++ l0_7)) else (none)) = some r := by first | (rw [hy170]; with_reducible exact H) | (have H2_ := (Option.bind_some _ _).symm.trans H; rw [hy170]; with_reducible exact H2_) | (have H2_ := (Option.bind_some _ _).symm.trans H; with_reducible exact H2_) | with_reducible exact H | (rw [hy170]; exact H) | exact H
                                  have Ny170 := Aside0.mk hy170
                                  clear hy170
                                  by_cases c83 : y170.length + l0_7.length < 8796093022208
                                  · rw [if_pos c83] at H
                                    have LMc83 := Aside0.mk c83
                                    clear c83
                                    obtain ⟨y173, hy173⟩ : ∃ y_ : List ByteArray, y_ = (y170 ++ l0_7) := ⟨_, rfl⟩
                                    replace H : (some y173) = some r := by first | (rw [hy173]; with_reducible exact H) | (have H2_ := (Option.bind_some _ _).symm.trans H; rw [hy173]; with_reducible exact H2_) | (have H2_ := (Option.bind_some _ _).symm.trans H; with_reducible exact H2_) | with_reducible exact H | (rw [hy173]; exact H) | exact H
                                    have Ny173 := Aside0.mk hy173
                                    clear hy173
                                    obtain rfl := Option.some.inj H
                                    have hcz84_0 : wc.cell? ⟨gb103, 0, none⟩ = some (.bool a0_0) := (blk_cell BK103.out 0).trans rfl
                                    have hcz84_1 : wc.cell? ⟨gb103, 1, none⟩ = some (.bool a0_1) := (blk_cell BK103.out 1).trans rfl
                                    have hcz84_2 : wc.cell? ⟨gb103, 2, none⟩ = some (.bool a0_2) := (blk_cell BK103.out 2).trans rfl
                                    have hcz84_3 : wc.cell? ⟨gb103, 3, none⟩ = some (.bool a0_3) := (blk_cell BK103.out 3).trans rfl
                                    have hcz84_4 : wc.cell? ⟨gb103, 4, none⟩ = some (.string a0_4) := (blk_cell BK103.out 4).trans rfl
                                    have hcz84_5 : wc.cell? ⟨gb103, 5, none⟩ = some (.int .u8 a0_5) := (blk_cell BK103.out 5).trans rfl
                                    have hcz84_6 : wc.cell? ⟨gb103, 6, none⟩ = some (.string a0_6) := (blk_cell BK103.out 6).trans rfl
                                    have hcz84_7 : wc.cell? ⟨gb103, 7, none⟩ = some (.slice A0_7 l0_7.length c0_7) := (blk_cell BK103.out 7).trans rfl
                                    have hfz84_0 := blk_frozen BK103.out 0
                                    have hfz84_1 := blk_frozen BK103.out 1
                                    have hfz84_2 := blk_frozen BK103.out 2
                                    have hfz84_3 := blk_frozen BK103.out 3
                                    have hfz84_4 := blk_frozen BK103.out 4
                                    have hfz84_5 := blk_frozen BK103.out 5
                                    have hfz84_6 := blk_frozen BK103.out 6
                                    have hfz84_7 := blk_frozen BK103.out 7
                                    go_wp2_with (first | ((with_reducible refine gate_dst (N := 47) rfl ?_); refine Kd.R_lit Kd.string _ 9 ?hg (N := 47) ?hd (xs := ([(⟨#[45, 76]⟩ : ByteArray), a0_6] : List ByteArray)) (inner := [.string (⟨#[45, 76]⟩ : ByteArray), .string a0_6]) (ok := fun _ => True) (okp := fun _ => True) ?hr ?hp (fun _ hk => hk) trivial (Below.refl _ _) (Nat.le_refl _) (by simp) ?_; (case hd => rfl); (case hg => rfl); (case hr => first | (go_simp; done) | (go_simp; rfl)); (case hp => exact (Reps.one (show Kd.M Kd.string _ _ _ (⟨#[45, 76]⟩ : ByteArray) [.string (⟨#[45, 76]⟩ : ByteArray)] from rfl) (Reps.one (show Kd.M Kd.string _ _ _ a0_6 [.string a0_6] from rfl) (Reps.none _ _)))); intro v162 w85 ho86 hb hg_ hnew_; clear hg_ hnew_; (first | rw [← Ny161.out] at ho86 | (simp only [Int.reduceToNat] at ho86; rw [← Ny161.out] at ho86)); have n0_ := Aside0.mk (Kd.R_elder' (by (with_reducible repeat (first | apply Kd.R_alloc | apply Kd.R_drewN | apply Kd.R_drew)); exact HO_3.out) (Kd.R_base ho86) hb); have n1_ := Aside0.mk (Kd.R_lower (Kd.R_new' ho86 (Kd.R_lt (by (with_reducible repeat (first | apply Kd.R_alloc | apply Kd.R_drewN | apply Kd.R_drew)); exact HO_3.out))) (below_size (by repeat (first | (with_reducible first | exact HB.out | apply below_alloc | apply pw_below_drewN | apply below_drew1 | refine below_set ?_ GE103.out) | exact HB.out)))); have n2_ := Aside0.mk (blk_below (g := gb103) (o := .cells #[.bool a0_0, .bool a0_1, .bool a0_2, .bool a0_3, .string a0_4, .int .u8 a0_5, .string a0_6, .slice A0_7 l0_7.length c0_7] 24 (0, 0)) (by (with_reducible repeat (first | refine blk_drewN ?_ _ | refine blk_drew ?_ | refine blk_alloc ?_ _)); exact BK103.out) hb); have n3_ := Aside0.mk (below_step (by repeat (first | (with_reducible first | exact HB.out | apply below_alloc | apply pw_below_drewN | apply below_drew1 | refine below_set ?_ GE103.out) | exact HB.out)) hb); clear HO_3; clear BK103; clear HB; have HO_3 := n0_; have HO163 := n1_; have BK103 := n2_; have HB := n3_; clear n0_ n1_ n2_ n3_; clear hb ho86; obtain ⟨Ao88, co88, eo88⟩ := Kd.R_slice HO163.out; subst eo88) | ((with_reducible refine gate_builtin (b := .append) (xs := #[.tmp 44, .tmp 47]) rfl ?_); at_builtin; refine Kd.R_append_rows Kd.string (w0 := w) w.heap.size rfl (.tmp 44) (.tmp 47) 22 9 (.string ⟨#[]⟩) 16 rfl Tryd.underlying22 info9 rfl (by decide) (by omega) u3 x3_25 y161 _ _ _ (fun k_ => some k_ ≠ (.slice Ao88 y161.length co88 : Value).ownBlock) (fun _ => False) rfl rfl ?aO ?aR (fun _ _ h => h) (fun _ h => h.elim) ?aF ?aB ?aS ?aL ?_; (case aR => repeat (first | exact (Kd.R_reads' HO163.out).2.2 | (with_reducible refine Kd.C_alloc ?_ _) | (with_reducible refine Kd.C_drewN ?_ _) | (with_reducible refine Kd.C_drew ?_))); (case aB => exact (by repeat (first | (with_reducible first | exact HB.out | apply below_alloc | apply pw_below_drewN | apply below_drew1 | refine below_set ?_ GE103.out) | exact HB.out))); (case aF => exact (fun k_ hk => Kd.fresh' (Kd.R_lt (by (with_reducible repeat (first | apply Kd.R_alloc | apply Kd.R_drewN | apply Kd.R_drew)); exact HO163.out)) k_ hk)); (case aO => exact (by (with_reducible repeat (first | apply Kd.R_alloc | apply Kd.R_drewN | apply Kd.R_drew)); exact Kd.R_mono HO_3.out (fun _ hk => hk.2))); (case aS => exact (below_size (by repeat (first | (with_reducible first | exact HB.out | apply below_alloc | apply pw_below_drewN | apply below_drew1 | refine below_set ?_ GE103.out) | exact HB.out)))); (case aL => have := LMc81.out; omega); intro v165 w87 ho hb hg hat; rw [← Ny164.out] at ho; have n0_ := Aside0.mk (blk_grown (g := gb103) (o := .cells #[.bool a0_0, .bool a0_1, .bool a0_2, .bool a0_3, .string a0_4, .int .u8 a0_5, .string a0_6, .slice A0_7 l0_7.length c0_7] 24 (0, 0)) (by (with_reducible repeat (first | refine blk_drewN ?_ _ | refine blk_drew ?_ | refine blk_alloc ?_ _)); exact BK103.out) hg (Kd.R_ne HO_3.out BK103.out (by decide))); have n1_ := Aside0.mk (Kd.R_after (ok := (fun _ => True)) (by (with_reducible repeat (first | apply Kd.R_alloc | apply Kd.R_drewN | apply Kd.R_drew)); exact HO163.out) hg hat); have n2_ := Aside0.mk (hb); have n3_ := Aside0.mk (ho); clear BK103; clear HO163; clear HB; clear HO_3; have BK103 := n0_; have HO163 := n1_; have HB := n2_; have HO166 := n3_; clear n0_ n1_ n2_ n3_; clear ho hb hg hat; have hcz89_0 : w87.cell? ⟨gb103, 0, none⟩ = some (.bool a0_0) := (blk_cell BK103.out 0).trans rfl; have hcz89_1 : w87.cell? ⟨gb103, 1, none⟩ = some (.bool a0_1) := (blk_cell BK103.out 1).trans rfl; have hcz89_2 : w87.cell? ⟨gb103, 2, none⟩ = some (.bool a0_2) := (blk_cell BK103.out 2).trans rfl; have hcz89_3 : w87.cell? ⟨gb103, 3, none⟩ = some (.bool a0_3) := (blk_cell BK103.out 3).trans rfl; have hcz89_4 : w87.cell? ⟨gb103, 4, none⟩ = some (.string a0_4) := (blk_cell BK103.out 4).trans rfl; have hcz89_5 : w87.cell? ⟨gb103, 5, none⟩ = some (.int .u8 a0_5) := (blk_cell BK103.out 5).trans rfl; have hcz89_6 : w87.cell? ⟨gb103, 6, none⟩ = some (.string a0_6) := (blk_cell BK103.out 6).trans rfl; have hcz89_7 : w87.cell? ⟨gb103, 7, none⟩ = some (.slice A0_7 l0_7.length c0_7) := (blk_cell BK103.out 7).trans rfl; have hfz89_0 := blk_frozen BK103.out 0; have hfz89_1 := blk_frozen BK103.out 1; have hfz89_2 := blk_frozen BK103.out 2; have hfz89_3 := blk_frozen BK103.out 3; have hfz89_4 := blk_frozen BK103.out 4; have hfz89_5 := blk_frozen BK103.out 5; have hfz89_6 := blk_frozen BK103.out 6; have hfz89_7 := blk_frozen BK103.out 7) | ((with_reducible refine gate_dst (N := 52) rfl ?_); refine Kd.R_lit Kd.string _ 9 ?hg (N := 52) ?hd (xs := ([(⟨#[45, 101]⟩ : ByteArray), a0_4, (⟨#[45, 45]⟩ : ByteArray)] : List ByteArray)) (inner := [.string (⟨#[45, 101]⟩ : ByteArray), .string a0_4, .string (⟨#[45, 45]⟩ : ByteArray)]) (ok := fun _ => True) (okp := fun _ => True) ?hr ?hp (fun _ hk => hk) trivial (Below.refl _ _) (Nat.le_refl _) (by simp) ?_; (case hd => rfl); (case hg => rfl); (case hr => first | (go_simp; done) | (go_simp; rfl)); (case hp => exact (Reps.one (show Kd.M Kd.string _ _ _ (⟨#[45, 101]⟩ : ByteArray) [.string (⟨#[45, 101]⟩ : ByteArray)] from rfl) (Reps.one (show Kd.M Kd.string _ _ _ a0_4 [.string a0_4] from rfl) (Reps.one (show Kd.M Kd.string _ _ _ (⟨#[45, 45]⟩ : ByteArray) [.string (⟨#[45, 45]⟩ : ByteArray)] from rfl) (Reps.none _ _))))); intro v168 w90 ho91 hb hg_ hnew_; clear hg_ hnew_; (first | rw [← Ny167.out] at ho91 | (simp only [Int.reduceToNat] at ho91; rw [← Ny167.out] at ho91)); have n0_ := Aside0.mk (Kd.R_elder' (by (with_reducible repeat (first | apply Kd.R_alloc | apply Kd.R_drewN | apply Kd.R_drew)); exact HO163.out) (Kd.R_base ho91) hb); have n1_ := Aside0.mk (Kd.R_elder' (by (with_reducible repeat (first | apply Kd.R_alloc | apply Kd.R_drewN | apply Kd.R_drew)); exact HO166.out) (Kd.R_base ho91) hb); have n2_ := Aside0.mk (Kd.R_lower (Kd.R_new' (Kd.R_new' ho91 (Kd.R_lt (by (with_reducible repeat (first | apply Kd.R_alloc | apply Kd.R_drewN | apply Kd.R_drew)); exact HO163.out))) (Kd.R_lt (by (with_reducible repeat (first | apply Kd.R_alloc | apply Kd.R_drewN | apply Kd.R_drew)); exact HO166.out))) (below_size (by repeat (first | (with_reducible first | exact HB.out | apply below_alloc | apply pw_below_drewN | apply below_drew1 | refine below_set ?_ GE103.out) | exact HB.out)))); have n3_ := Aside0.mk (blk_below (g := gb103) (o := .cells #[.bool a0_0, .bool a0_1, .bool a0_2, .bool a0_3, .string a0_4, .int .u8 a0_5, .string a0_6, .slice A0_7 l0_7.length c0_7] 24 (0, 0)) (by (with_reducible repeat (first | refine blk_drewN ?_ _ | refine blk_drew ?_ | refine blk_alloc ?_ _)); exact BK103.out) hb); have n4_ := Aside0.mk (below_step (by repeat (first | (with_reducible first | exact HB.out | apply below_alloc | apply pw_below_drewN | apply below_drew1 | refine below_set ?_ GE103.out) | exact HB.out)) hb); clear HO163; clear HO166; clear BK103; clear HB; have HO163 := n0_; have HO166 := n1_; have HO169 := n2_; have BK103 := n3_; have HB := n4_; clear n0_ n1_ n2_ n3_ n4_; clear hb ho91; obtain ⟨Ao93, co93, eo93⟩ := Kd.R_slice HO169.out; subst eo93) | ((with_reducible refine gate_builtin (b := .append) (xs := #[.tmp 49, .tmp 52]) rfl ?_); at_builtin; refine Kd.R_append_rows Kd.string (w0 := w) w.heap.size rfl (.tmp 49) (.tmp 52) 22 9 (.string ⟨#[]⟩) 16 rfl Tryd.underlying22 info9 rfl (by decide) (by omega) v165 y164 y167 _ _ _ (fun k_ => some k_ ≠ (.slice Ao88 y161.length co88 : Value).ownBlock ∧ some k_ ≠ (.slice Ao93 y167.length co93 : Value).ownBlock) (fun _ => False) rfl rfl ?aO ?aR (fun _ _ h => h) (fun _ h => h.elim) ?aF ?aB ?aS ?aL ?_; (case aR => repeat (first | exact (Kd.R_reads' HO169.out).2.2 | (with_reducible refine Kd.C_alloc ?_ _) | (with_reducible refine Kd.C_drewN ?_ _) | (with_reducible refine Kd.C_drew ?_))); (case aB => exact (by repeat (first | (with_reducible first | exact HB.out | apply below_alloc | apply pw_below_drewN | apply below_drew1 | refine below_set ?_ GE103.out) | exact HB.out))); (case aF => exact (fun k_ hk => ⟨Kd.fresh' (Kd.R_lt (by (with_reducible repeat (first | apply Kd.R_alloc | apply Kd.R_drewN | apply Kd.R_drew)); exact HO163.out)) k_ hk, Kd.fresh' (Kd.R_lt (by (with_reducible repeat (first | apply Kd.R_alloc | apply Kd.R_drewN | apply Kd.R_drew)); exact HO169.out)) k_ hk⟩)); (case aO => exact (by (with_reducible repeat (first | apply Kd.R_alloc | apply Kd.R_drewN | apply Kd.R_drew)); exact HO166.out)); (case aS => exact (below_size (by repeat (first | (with_reducible first | exact HB.out | apply below_alloc | apply pw_below_drewN | apply below_drew1 | refine below_set ?_ GE103.out) | exact HB.out)))); (case aL => have := LMc82.out; omega); intro v171 w92 ho hb hg hat; rw [← Ny170.out] at ho; have n0_ := Aside0.mk (blk_grown (g := gb103) (o := .cells #[.bool a0_0, .bool a0_1, .bool a0_2, .bool a0_3, .string a0_4, .int .u8 a0_5, .string a0_6, .slice A0_7 l0_7.length c0_7] 24 (0, 0)) (by (with_reducible repeat (first | refine blk_drewN ?_ _ | refine blk_drew ?_ | refine blk_alloc ?_ _)); exact BK103.out) hg (Kd.R_ne HO166.out BK103.out (by decide))); have n1_ := Aside0.mk (Kd.R_after (ok := (fun k_ => some k_ ≠ (.slice Ao93 y167.length co93 : Value).ownBlock)) (by (with_reducible repeat (first | apply Kd.R_alloc | apply Kd.R_drewN | apply Kd.R_drew)); exact Kd.R_mono HO163.out (fun _ hk => ⟨hk.2, hk.1.2⟩)) hg hat); have n2_ := Aside0.mk (Kd.R_after (ok := (fun k_ => some k_ ≠ (.slice Ao88 y161.length co88 : Value).ownBlock)) (by (with_reducible repeat (first | apply Kd.R_alloc | apply Kd.R_drewN | apply Kd.R_drew)); exact Kd.R_mono HO169.out (fun _ hk => ⟨hk.1.2, hk.2⟩)) hg hat); have n3_ := Aside0.mk (hb); have n4_ := Aside0.mk (ho); clear BK103; clear HO163; clear HO169; clear HB; clear HO166; have BK103 := n0_; have HO163 := n1_; have HO169 := n2_; have HB := n3_; have HO172 := n4_; clear n0_ n1_ n2_ n3_ n4_; clear ho hb hg hat; have hcz94_0 : w92.cell? ⟨gb103, 0, none⟩ = some (.bool a0_0) := (blk_cell BK103.out 0).trans rfl; have hcz94_1 : w92.cell? ⟨gb103, 1, none⟩ = some (.bool a0_1) := (blk_cell BK103.out 1).trans rfl; have hcz94_2 : w92.cell? ⟨gb103, 2, none⟩ = some (.bool a0_2) := (blk_cell BK103.out 2).trans rfl; have hcz94_3 : w92.cell? ⟨gb103, 3, none⟩ = some (.bool a0_3) := (blk_cell BK103.out 3).trans rfl; have hcz94_4 : w92.cell? ⟨gb103, 4, none⟩ = some (.string a0_4) := (blk_cell BK103.out 4).trans rfl; have hcz94_5 : w92.cell? ⟨gb103, 5, none⟩ = some (.int .u8 a0_5) := (blk_cell BK103.out 5).trans rfl; have hcz94_6 : w92.cell? ⟨gb103, 6, none⟩ = some (.string a0_6) := (blk_cell BK103.out 6).trans rfl; have hcz94_7 : w92.cell? ⟨gb103, 7, none⟩ = some (.slice A0_7 l0_7.length c0_7) := (blk_cell BK103.out 7).trans rfl; have hfz94_0 := blk_frozen BK103.out 0; have hfz94_1 := blk_frozen BK103.out 1; have hfz94_2 := blk_frozen BK103.out 2; have hfz94_3 := blk_frozen BK103.out 3; have hfz94_4 := blk_frozen BK103.out 4; have hfz94_5 := blk_frozen BK103.out 5; have hfz94_6 := blk_frozen BK103.out 6; have hfz94_7 := blk_frozen BK103.out 7) | ((with_reducible refine gate_builtin (b := .append) (xs := #[.tmp 54, .tmp 56]) rfl ?_); at_builtin; refine Kd.R_append_rows Kd.string (w0 := w) w.heap.size rfl (.tmp 54) (.tmp 56) 22 9 (.string ⟨#[]⟩) 16 rfl Tryd.underlying22 info9 rfl (by decide) (by omega) v171 y170 l0_7 _ _ _ (fun k_ => some k_ ≠ (.slice Ao88 y161.length co88 : Value).ownBlock ∧ some k_ ≠ (.slice Ao93 y167.length co93 : Value).ownBlock) (fun _ => False) rfl rfl ?aO ?aR (fun _ _ h => h) (fun _ h => h.elim) ?aF ?aB ?aS ?aL ?_; (case aR => repeat (first | exact (Kd.C_below HR0_7.out HB.out) | (with_reducible refine Kd.C_alloc ?_ _) | (with_reducible refine Kd.C_drewN ?_ _) | (with_reducible refine Kd.C_drew ?_))); (case aB => exact (by repeat (first | (with_reducible first | exact HB.out | apply below_alloc | apply pw_below_drewN | apply below_drew1 | refine below_set ?_ GE103.out) | exact HB.out))); (case aF => exact (fun k_ hk => ⟨Kd.fresh' (Kd.R_lt (by (with_reducible repeat (first | apply Kd.R_alloc | apply Kd.R_drewN | apply Kd.R_drew)); exact HO163.out)) k_ hk, Kd.fresh' (Kd.R_lt (by (with_reducible repeat (first | apply Kd.R_alloc | apply Kd.R_drewN | apply Kd.R_drew)); exact HO169.out)) k_ hk⟩)); (case aO => exact (by (with_reducible repeat (first | apply Kd.R_alloc | apply Kd.R_drewN | apply Kd.R_drew)); exact HO172.out)); (case aS => exact (below_size (by repeat (first | (with_reducible first | exact HB.out | apply below_alloc | apply pw_below_drewN | apply below_drew1 | refine below_set ?_ GE103.out) | exact HB.out)))); (case aL => have := LMc83.out; omega); intro v174 w95 ho hb hg hat; rw [← Ny173.out] at ho; have n0_ := Aside0.mk (blk_grown (g := gb103) (o := .cells #[.bool a0_0, .bool a0_1, .bool a0_2, .bool a0_3, .string a0_4, .int .u8 a0_5, .string a0_6, .slice A0_7 l0_7.length c0_7] 24 (0, 0)) (by (with_reducible repeat (first | refine blk_drewN ?_ _ | refine blk_drew ?_ | refine blk_alloc ?_ _)); exact BK103.out) hg (Kd.R_ne HO172.out BK103.out (by decide))); have n1_ := Aside0.mk (Kd.R_after (ok := (fun k_ => some k_ ≠ (.slice Ao93 y167.length co93 : Value).ownBlock)) (by (with_reducible repeat (first | apply Kd.R_alloc | apply Kd.R_drewN | apply Kd.R_drew)); exact HO163.out) hg hat); have n2_ := Aside0.mk (Kd.R_after (ok := (fun k_ => some k_ ≠ (.slice Ao88 y161.length co88 : Value).ownBlock)) (by (with_reducible repeat (first | apply Kd.R_alloc | apply Kd.R_drewN | apply Kd.R_drew)); exact HO169.out) hg hat); have n3_ := Aside0.mk (hb); have n4_ := Aside0.mk (ho); clear BK103; clear HO163; clear HO169; clear HB; clear HO172; have BK103 := n0_; have HO163 := n1_; have HO169 := n2_; have HB := n3_; have HO175 := n4_; clear n0_ n1_ n2_ n3_ n4_; clear ho hb hg hat))
                                    all_goals go_ret
                                    all_goals exact ⟨_, by first | rfl | (simp [errW_none, errW_some] <;> rfl) | (simp [*, errW_none, errW_some] <;> rfl), by (with_reducible repeat (first | apply Kd.R_alloc | apply Kd.R_drewN | apply Kd.R_drew)); exact Kd.R_mono HO175.out (fun _ hk => trivial), by repeat (first | (with_reducible first | exact HB.out | apply below_alloc | apply pw_below_drewN | apply below_drew1 | refine below_set ?_ GE103.out) | exact HB.out)⟩
                                  · rw [if_neg c83] at H
                                    exact absurd H (by simp)
                                · rw [if_neg c82] at H
                                  exact absurd H (by simp)
                              · rw [if_neg c81] at H
                                exact absurd H (by simp)

end Go.Proofs.YtceflmoiiiclcaaDoor.PP
