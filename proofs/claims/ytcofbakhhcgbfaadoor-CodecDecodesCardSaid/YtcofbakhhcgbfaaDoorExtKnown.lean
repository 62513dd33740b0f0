/- Functions of the program told as plain functions, and that each call comes to what its function says. Conditions: each contract names its own. (Written by xprint.py, a program of this session, by way of the print of the kit; not trusted: Lean checks it.) -/
import Derived.Test.YtcofbakhhcgbfaaDoorProg
import Derived.Below
import Derived.Deep.Draws
import Derived.Deep.AppendLies
import Derived.Maps.AppendAt
import Derived.OwnWalk
import Derived.Laws.BytesArg
import Derived.Laws.MakeOwn
import Derived.Laws.OwnMore
import Derived.Deep.OwnRows
import Derived.Tactics
import Derived.Lib.ConvBytes
import Derived.Laws.Slices
import Derived.WalkKit
import Derived.KernelRfl
import Derived.RowKit3
import Derived.Deep.LoopGhost
import Derived.Deep.QuietTactic
import Derived.BigQuiet
import Derived.WideLaws
import Derived.Deep.DeepCutAuto
import Derived.Deep.CutBlock
import Derived.Deep.RegionHeld3
import Derived.Laws.Rows
import Derived.Lib.AppendStr
import Derived.ArgAppend
import Derived.Laws.IdiomCopy
import Derived.OrdersHeld
import Derived.Laws.BitsLemmas
import Derived.RowKit
import Derived.Test.YtcofbakhhcgbfaaDoorWWords
import Derived.Test.YtcofbakhhcgbfaaDoorWLast
import Derived.Test.YtcofbakhhcgbfaaDoorWTab
import Derived.Test.YtcofbakhhcgbfaaDoorWFour
import Derived.Test.YtcofbakhhcgbfaaDoorWQPut
import Derived.Test.YtcofbakhhcgbfaaDoorWApart
import Derived.Test.YtcofbakhhcgbfaaDoorWArr
import Derived.Test.YtcofbakhhcgbfaaDoorWZeros
import Derived.Test.YtcofbakhhcgbfaaDoorWFoot
import Derived.Test.YtcofbakhhcgbfaaDoorWKept
import Derived.Test.YtcofbakhhcgbfaaDoorWShare
import Derived.Test.YtcofbakhhcgbfaaDoorWN
import Derived.Test.YtcofbakhhcgbfaaDoorWFootNe
import Derived.Test.YtcofbakhhcgbfaaDoorWAt
import Derived.Test.YtcofbakhhcgbfaaDoorWEqStruct
import Derived.Test.YtcofbakhhcgbfaaDoorWRepsOne
import Derived.Test.YtcofbakhhcgbfaaDoorWInv
import Derived.Test.YtcofbakhhcgbfaaDoorWInvWords
import Derived.Test.YtcofbakhhcgbfaaDoorWGuard
import Derived.Test.YtcofbakhhcgbfaaDoorWNEv
import Derived.Test.YtcofbakhhcgbfaaDoorWMore
import Derived.Test.YtcofbakhhcgbfaaDoorExtDecodeC
import Derived.Test.YtcofbakhhcgbfaaDoorExtEncodeC
import Derived.Test.YtcofbakhhcgbfaaDoorExtGl
import Derived.Test.YtcofbakhhcgbfaaDoorExtNamed
namespace Go.Proofs.YtcofbakhhcgbfaaDoor.PX
end Go.Proofs.YtcofbakhhcgbfaaDoor.PX
namespace Go.Proofs.YtcofbakhhcgbfaaDoor.KN
open Go.RowKit Go.Proofs.YtcofbakhhcgbfaaDoor.PX Go.Proofs.YtcofbakhhcgbfaaDoorW.PrintWords Go.Proofs.YtcofbakhhcgbfaaDoorW.PrintLast Go.Proofs.YtcofbakhhcgbfaaDoorW.PrintMore
attribute [local go_sem] max2_int min2_int max_two min_two max_three min_three max_four min_four   -- for this text's walks alone
set_option linter.unusedVariables false
set_option linter.unusedSimpArgs false



def errW : Option Int → Value
  | none => .nilIface
  | some c => .iface 0 (.int .i64 c)
theorem errW_none : errW none = .nilIface := rfl
theorem errW_some (c : Int) : errW (some c) = .iface 0 (.int .i64 c) := rfl

theorem info5 : (Tryd.prog.info? 5).map (fun i => (i.zero, i.size, i.bytes)) = some (some (.int .u8 0), 1, 1) := by kernel_rfl
theorem info37 : (Tryd.prog.info? 37).map (fun i => (i.zero, i.size, i.bytes)) = some (some (.int .i32 0), 1, 4) := by kernel_rfl
-- the values' own types
def rd_L1 (xs : List (List Int)) (i : Int) : (List Int) := xs.getD i.toNat ([] : List Int)
theorem at_L1 {w : World} {A : Option Addr} {n : Nat} {xs : List (List Int)} (h : Kd.C (Kd.slice 5 (Kd.int .u8)) w A n xs) (i : Int) (h0 : 0 ≤ i) (h1 : i < n) : ∃ ad A0 c0, A = some ad ∧ w.cell? (ad.add i.toNat) = some (.slice A0 (rd_L1 xs i).length c0) ∧ (rd_L1 xs i).length ≤ c0 ∧ (Kd.int .u8).C w A0 (rd_L1 xs i).length (rd_L1 xs i) := by
  obtain ⟨ad, c, e, _, hK, hc0⟩ := Kd.C_get h ([] : List Int) i h0 h1
  have hc : ∀ j u, c[j]? = some u → w.cell? (ad.add (i.toNat * 1 + j)) = some u := hc0
  obtain ⟨A0, c0, rfl, l0, g0⟩ := hK
  exact ⟨ad, A0, c0, e, by have hq := hc 0 _ rfl; rwa [Nat.mul_one, Nat.add_zero] at hq, l0, g0⟩

def rd_L4 (xs : List (List Int)) (i : Int) : (List Int) := xs.getD i.toNat ([] : List Int)
theorem at_L4 {w : World} {A : Option Addr} {n : Nat} {xs : List (List Int)} (h : Kd.C (Kd.slice 37 (Kd.int .i32)) w A n xs) (i : Int) (h0 : 0 ≤ i) (h1 : i < n) : ∃ ad A0 c0, A = some ad ∧ w.cell? (ad.add i.toNat) = some (.slice A0 (rd_L4 xs i).length c0) ∧ (rd_L4 xs i).length ≤ c0 ∧ (Kd.int .i32).C w A0 (rd_L4 xs i).length (rd_L4 xs i) := by
  obtain ⟨ad, c, e, _, hK, hc0⟩ := Kd.C_get h ([] : List Int) i h0 h1
  have hc : ∀ j u, c[j]? = some u → w.cell? (ad.add (i.toNat * 1 + j)) = some u := hc0
  obtain ⟨A0, c0, rfl, l0, g0⟩ := hK
  exact ⟨ad, A0, c0, e, by have hq := hc 0 _ rfl; rwa [Nat.mul_one, Nat.add_zero] at hq, l0, g0⟩

/-! #### struct type 29 -/
structure S29 where
  f0 : Int
  f1 : Bool
  f2 : Bool
  f3 : (List Int)
def z29 : S29 := ⟨(0 : Int), false, false, ([] : List Int)⟩
def k29 : Kd S29 := Kd.iso (Kd.pair (Kd.int .u8) (Kd.pair Kd.bool (Kd.pair Kd.bool (Kd.slice 37 (Kd.int .i32))))) (fun x : S29 => (x.f0, x.f1, x.f2, x.f3))
theorem k29_open {w : World} {x : S29} {cs : List Value} (h : k29.K w x cs) : ∃ A3 c3, cs = [.int .u8 x.f0, .bool x.f1, .bool x.f2, .slice A3 x.f3.length c3] ∧ x.f3.length ≤ c3 ∧ (Kd.int .i32).C w A3 x.f3.length x.f3 := by
  obtain ⟨_, _, rfl, rfl, ⟨_, _, rfl, rfl, ⟨_, _, rfl, rfl, ⟨A3, c3, rfl, l3, g3⟩⟩⟩⟩ := h
  exact ⟨A3, c3, rfl, l3, g3⟩
theorem k29_openM {w : World} {base : Nat} {ok : Nat → Prop} {x : S29} {cs : List Value} (h : k29.M w base ok x cs) : ∃ v3, cs = [.int .u8 x.f0, .bool x.f1, .bool x.f2, v3] ∧ (Kd.int .i32).R 37 w base ok v3 x.f3 := by
  obtain ⟨_, _, rfl, rfl, ⟨_, _, rfl, rfl, ⟨_, _, rfl, rfl, ⟨v3, rfl, g3⟩⟩⟩⟩ := h
  exact ⟨v3, rfl, g3⟩
theorem k29_mk (w : World) (x : S29) {A3 : Option Addr} {c3 : Nat} (l3 : x.f3.length ≤ c3) (g3 : (Kd.int .i32).C w A3 x.f3.length x.f3) : k29.K w x [.int .u8 x.f0, .bool x.f1, .bool x.f2, .slice A3 x.f3.length c3] := ⟨[.int .u8 x.f0], [.bool x.f1, .bool x.f2, .slice A3 x.f3.length c3], rfl, rfl, ⟨[.bool x.f1], [.bool x.f2, .slice A3 x.f3.length c3], rfl, rfl, ⟨[.bool x.f2], [.slice A3 x.f3.length c3], rfl, rfl, ⟨A3, c3, rfl, l3, g3⟩⟩⟩⟩
theorem k29_mkM (w : World) (base : Nat) (ok : Nat → Prop) (x : S29) {v3 : Value} (g3 : (Kd.int .i32).R 37 w base ok v3 x.f3) : k29.M w base ok x [.int .u8 x.f0, .bool x.f1, .bool x.f2, v3] := ⟨[.int .u8 x.f0], [.bool x.f1, .bool x.f2, v3], rfl, rfl, ⟨[.bool x.f1], [.bool x.f2, v3], rfl, rfl, ⟨[.bool x.f2], [v3], rfl, rfl, ⟨v3, rfl, g3⟩⟩⟩⟩
def rd_T29 (xs : List S29) (i : Int) : S29 := xs.getD i.toNat z29
theorem at_T29 {w : World} {A : Option Addr} {n : Nat} {xs : List S29} (h : Kd.C k29 w A n xs) (i : Int) (h0 : 0 ≤ i) (h1 : i < n) : ∃ ad A3 c3, A = some ad ∧ w.cell? (ad.add (i.toNat * 4)) = some (.int .u8 (rd_T29 xs i).f0) ∧ w.cell? ⟨(ad.add (i.toNat * 4)).block, (ad.add (i.toNat * 4)).off + 1, none⟩ = some (.bool (rd_T29 xs i).f1) ∧ w.cell? ⟨(ad.add (i.toNat * 4)).block, (ad.add (i.toNat * 4)).off + 2, none⟩ = some (.bool (rd_T29 xs i).f2) ∧ w.cell? ⟨(ad.add (i.toNat * 4)).block, (ad.add (i.toNat * 4)).off + 3, none⟩ = some (.slice A3 (rd_T29 xs i).f3.length c3) ∧ (rd_T29 xs i).f3.length ≤ c3 ∧ (Kd.int .i32).C w A3 (rd_T29 xs i).f3.length (rd_T29 xs i).f3 := by
  obtain ⟨ad, c, e, _, hK, hc0⟩ := Kd.C_get h z29 i h0 h1
  have hc : ∀ j u, c[j]? = some u → w.cell? (ad.add (i.toNat * 4 + j)) = some u := hc0
  obtain ⟨A3, c3, rfl, l3, g3⟩ := k29_open hK
  exact ⟨ad, A3, c3, e, hc 0 _ rfl, by rw [← add_field _ _ 1 (by omega)]; exact hc 1 _ rfl, by rw [← add_field _ _ 2 (by omega)]; exact hc 2 _ rfl, by rw [← add_field _ _ 3 (by omega)]; exact hc 3 _ rfl, l3, g3⟩

end Go.Proofs.YtcofbakhhcgbfaaDoor.KN

/- Functions of the program told as plain functions, and that each call comes to what its function says. Conditions: each contract names its own. (Written by xprint.py, a program of this session, by way of the print of the kit; not trusted: Lean checks it.) -/
namespace Go.Proofs.YtcofbakhhcgbfaaDoor.PX
end Go.Proofs.YtcofbakhhcgbfaaDoor.PX
namespace Go.Proofs.YtcofbakhhcgbfaaDoor.KN
open Go.RowKit Go.Proofs.YtcofbakhhcgbfaaDoor.PX Go.Proofs.YtcofbakhhcgbfaaDoorW.PrintWords Go.Proofs.YtcofbakhhcgbfaaDoorW.PrintLast Go.Proofs.YtcofbakhhcgbfaaDoorW.PrintMore
attribute [local go_sem] max2_int min2_int max_two min_two max_three min_three max_four min_four   -- for this text's walks alone
set_option linter.unusedVariables false
set_option linter.unusedSimpArgs false

-- BY HAND: function 12 (codec_Decode): YtcofbakhhcgbfaaDoorExtDecodeC

-- BY HAND: function 13 (codec_Encode): YtcofbakhhcgbfaaDoorExtEncodeC

-- BY HAND: function 20 (codec_Named): YtcofbakhhcgbfaaDoorExtNamed

/-! ### redactorlaw04_known: function 9 -/
def redactorlaw04_known.f (k : Nat)  : Option (Bool) := (codec_Decode.f k 2 (([255, 254, 97, 0] : List Int))).bind fun bt104 => ((codec_Encode.f k 3 false false (([256] : List Int))).bind fun bt115 => ((codec_Decode.f k 0 ([] : List Int)).bind fun bt119 => (if bt104.2.2.2.2 = 0 then (if bt104.2.2.1 = true then (if bt104.2.1 = true then (some false) else (if (bt104.2.2.2.1.length : Int) = 1 then (if 0 < (bt104.2.2.2.1.length : Int) then (if (rd bt104.2.2.2.1 0) = 97 then (if bt115.2 = 11 then (if bt119.2.2.2.2 = 1 then ((codec_Named.f (⟨#[108, 97, 116, 105, 110, 49]⟩ : ByteArray)).bind fun t128 => (if t128 = 3 then ((codec_Named.f (⟨#[120]⟩ : ByteArray)).bind fun t129 => (some (t129 == 0))) else (some false))) else (some false)) else (some false)) else (some false)) else (none)) else (some false))) else (some false)) else (some false))))
theorem redactorlaw04_known.mono : ∀ k, LeO (redactorlaw04_known.f k ) (redactorlaw04_known.f (k + 1) ) := by
  intro  k
  unfold redactorlaw04_known.f
  repeat' first
      | (with_reducible exact codec_Decode.mono _ _ _)
      | (with_reducible exact codec_Encode.mono _ _ _ _ _)
      | (with_reducible exact LeO.refl _)
      | (with_reducible exact LeO.none _)
      | (with_reducible refine LeO.ite ?_ ?_)
      | (with_reducible refine LeO.bind ?_ (fun _ => ?_))
      | exact codec_Decode.mono _ _ _
      | exact codec_Encode.mono _ _ _ _ _
      | exact LeO.none _
      | refine LeO.ite ?_ ?_
      | refine LeO.bind ?_ (fun _ => ?_)
set_option maxHeartbeats 8000000 in
set_option maxRecDepth 100000 in
theorem redactorlaw04_known.calls (k : Nat)  (r : Bool) (w : World) (hGL : (Lib.Utf8Tabs 0 1) w) (hrt : Aside0 (r = true)) (h : redactorlaw04_known.f k  = some r) :
    Calls Tryd.prog 9 #[] w fun e w' => e = .returned (.bool r) ∧ Below w.heap.size w w' := by
  have hu29 := Tryd.underlying29
  have HB := Aside0.mk (Below.refl w.heap.size w)
  have HGL := Aside0.mk hGL
  clear hGL
  have H : ((codec_Decode.f k 2 (([255, 254, 97, 0] : List Int))).bind fun bt104 => ((codec_Encode.f k 3 false false (([256] : List Int))).bind fun bt115 => ((codec_Decode.f k 0 ([] : List Int)).bind fun bt119 => (if bt104.2.2.2.2 = 0 then (if bt104.2.2.1 = true then (if bt104.2.1 = true then (some false) else (if (bt104.2.2.2.1.length : Int) = 1 then (if 0 < (bt104.2.2.2.1.length : Int) then (if (rd bt104.2.2.2.1 0) = 97 then (if bt115.2 = 11 then (if bt119.2.2.2.2 = 1 then ((codec_Named.f (⟨#[108, 97, 116, 105, 110, 49]⟩ : ByteArray)).bind fun t128 => (if t128 = 3 then ((codec_Named.f (⟨#[120]⟩ : ByteArray)).bind fun t129 => (some (t129 == 0))) else (some false))) else (some false)) else (some false)) else (some false)) else (none)) else (some false))) else (some false)) else (some false))))) = some r := h
  clear h
  obtain ⟨y101, hy101⟩ : ∃ y_ : List Int, y_ = (([255, 254, 97, 0] : List Int)) := ⟨_, rfl⟩
  replace H : ((codec_Decode.f k 2 y101).bind fun bt104 => ((codec_Encode.f k 3 false false (([256] : List Int))).bind fun bt115 => ((codec_Decode.f k 0 ([] : List Int)).bind fun bt119 => (if bt104.2.2.2.2 = 0 then (if bt104.2.2.1 = true then (if bt104.2.1 = true then (some false) else (if (bt104.2.2.2.1.length : Int) = 1 then (if 0 < (bt104.2.2.2.1.length : Int) then (if (rd bt104.2.2.2.1 0) = 97 then (if bt115.2 = 11 then (if bt119.2.2.2.2 = 1 then ((codec_Named.f (⟨#[108, 97, 116, 105, 110, 49]⟩ : ByteArray)).bind fun t128 => (if t128 = 3 then ((codec_Named.f (⟨#[120]⟩ : ByteArray)).bind fun t129 => (some (t129 == 0))) else (some false))) else (some false)) else (some false)) else (some false)) else (none)) else (some false))) else (some false)) else (some false))))) = some r := by first | (rw [hy101]; with_reducible exact H) | (have H2_ := (Option.bind_some _ _).symm.trans H; rw [hy101]; with_reducible exact H2_) | (have H2_ := (Option.bind_some _ _).symm.trans H; with_reducible exact H2_) | with_reducible exact H | (rw [hy101]; exact H) | exact H
  have Ny101 := Aside0.mk hy101
  clear hy101
  replace H := Option.bind_eq_some_iff.mp H
  obtain ⟨⟨t104, t105, t106, t107, t110⟩, A10, H⟩ := H
  replace H : ((codec_Encode.f k 3 false false (([256] : List Int))).bind fun bt115 => ((codec_Decode.f k 0 ([] : List Int)).bind fun bt119 => (if t110 = 0 then (if t106 = true then (if t105 = true then (some false) else (if (t107.length : Int) = 1 then (if 0 < (t107.length : Int) then (if (rd t107 0) = 97 then (if bt115.2 = 11 then (if bt119.2.2.2.2 = 1 then ((codec_Named.f (⟨#[108, 97, 116, 105, 110, 49]⟩ : ByteArray)).bind fun t128 => (if t128 = 3 then ((codec_Named.f (⟨#[120]⟩ : ByteArray)).bind fun t129 => (some (t129 == 0))) else (some false))) else (some false)) else (some false)) else (some false)) else (none)) else (some false))) else (some false)) else (some false)))) = some r := H
  have A1 := Aside0.mk A10
  clear A10
  obtain ⟨y112, hy112⟩ : ∃ y_ : List Int, y_ = (([256] : List Int)) := ⟨_, rfl⟩
  replace H : ((codec_Encode.f k 3 false false y112).bind fun bt115 => ((codec_Decode.f k 0 ([] : List Int)).bind fun bt119 => (if t110 = 0 then (if t106 = true then (if t105 = true then (some false) else (if (t107.length : Int) = 1 then (if 0 < (t107.length : Int) then (if (rd t107 0) = 97 then (if bt115.2 = 11 then (if bt119.2.2.2.2 = 1 then ((codec_Named.f (⟨#[108, 97, 116, 105, 110, 49]⟩ : ByteArray)).bind fun t128 => (if t128 = 3 then ((codec_Named.f (⟨#[120]⟩ : ByteArray)).bind fun t129 => (some (t129 == 0))) else (some false))) else (some false)) else (some false)) else (some false)) else (none)) else (some false))) else (some false)) else (some false)))) = some r := by first | (rw [hy112]; with_reducible exact H) | (have H2_ := (Option.bind_some _ _).symm.trans H; rw [hy112]; with_reducible exact H2_) | (have H2_ := (Option.bind_some _ _).symm.trans H; with_reducible exact H2_) | with_reducible exact H | (rw [hy112]; exact H) | exact H
  have Ny112 := Aside0.mk hy112
  clear hy112
  replace H := Option.bind_eq_some_iff.mp H
  obtain ⟨⟨t115, t118⟩, A20, H⟩ := H
  replace H : ((codec_Decode.f k 0 ([] : List Int)).bind fun bt119 => (if t110 = 0 then (if t106 = true then (if t105 = true then (some false) else (if (t107.length : Int) = 1 then (if 0 < (t107.length : Int) then (if (rd t107 0) = 97 then (if t118 = 11 then (if bt119.2.2.2.2 = 1 then ((codec_Named.f (⟨#[108, 97, 116, 105, 110, 49]⟩ : ByteArray)).bind fun t128 => (if t128 = 3 then ((codec_Named.f (⟨#[120]⟩ : ByteArray)).bind fun t129 => (some (t129 == 0))) else (some false))) else (some false)) else (some false)) else (some false)) else (none)) else (some false))) else (some false)) else (some false))) = some r := H
  have A2 := Aside0.mk A20
  clear A20
  replace H := Option.bind_eq_some_iff.mp H
  obtain ⟨⟨t119, t120, t121, t122, t125⟩, A30, H⟩ := H
  replace H : (if t110 = 0 then (if t106 = true then (if t105 = true then (some false) else (if (t107.length : Int) = 1 then (if 0 < (t107.length : Int) then (if (rd t107 0) = 97 then (if t118 = 11 then (if t125 = 1 then ((codec_Named.f (⟨#[108, 97, 116, 105, 110, 49]⟩ : ByteArray)).bind fun t128 => (if t128 = 3 then ((codec_Named.f (⟨#[120]⟩ : ByteArray)).bind fun t129 => (some (t129 == 0))) else (some false))) else (some false)) else (some false)) else (some false)) else (none)) else (some false))) else (some false)) else (some false)) = some r := H
  have A3 := Aside0.mk A30
  clear A30
  by_cases c4 : t110 = 0
  · rw [if_pos c4] at H
    have c4b0 : (t110 == 0) = true := beq_iff_eq.mpr c4
    have c4b1 : (t110 != 0) = false := bne_eq_false_iff_eq.mpr c4
    clear c4
    by_cases c5 : t106 = true
    · subst c5
      have H1 : (if t105 = true then (some false) else (if (t107.length : Int) = 1 then (if 0 < (t107.length : Int) then (if (rd t107 0) = 97 then (if t118 = 11 then (if t125 = 1 then ((codec_Named.f (⟨#[108, 97, 116, 105, 110, 49]⟩ : ByteArray)).bind fun t128 => (if t128 = 3 then ((codec_Named.f (⟨#[120]⟩ : ByteArray)).bind fun t129 => (some (t129 == 0))) else (some false))) else (some false)) else (some false)) else (some false)) else (none)) else (some false))) = some r := by rw [if_pos rfl] at H; exact H
      clear H
      have H := H1
      clear H1
      by_cases c6 : t105 = true
      · subst c6
        have H1 : (some false) = some r := by rw [if_pos rfl] at H; exact H
        clear H
        have H := H1
        clear H1
        exact absurd (Option.some.inj H) (by rw [hrt.out]; decide)
      · replace c6 := Bool.eq_false_iff.mpr c6
        subst c6
        have H1 : (if (t107.length : Int) = 1 then (if 0 < (t107.length : Int) then (if (rd t107 0) = 97 then (if t118 = 11 then (if t125 = 1 then ((codec_Named.f (⟨#[108, 97, 116, 105, 110, 49]⟩ : ByteArray)).bind fun t128 => (if t128 = 3 then ((codec_Named.f (⟨#[120]⟩ : ByteArray)).bind fun t129 => (some (t129 == 0))) else (some false))) else (some false)) else (some false)) else (some false)) else (none)) else (some false)) = some r := by rw [if_neg (show ¬ (false = true) by decide)] at H; exact H
        clear H
        have H := H1
        clear H1
        by_cases c7 : (t107.length : Int) = 1
        · rw [if_pos c7] at H
          have c7b0 : ((t107.length : Int) == 1) = true := beq_iff_eq.mpr c7
          have c7b1 : ((t107.length : Int) != 1) = false := bne_eq_false_iff_eq.mpr c7
          clear c7
          by_cases c8 : 0 < (t107.length : Int)
          · rw [if_pos c8] at H
            have c8b0 : decide (0 < (t107.length : Int)) = true := decide_eq_true c8
            have c8b1 : decide (0 < t107.length) = true := decide_eq_true (by omega)
            clear c8
            by_cases c9 : (rd t107 0) = 97
            · rw [if_pos c9] at H
              have c9b0 : ((rd t107 0) == 97) = true := beq_iff_eq.mpr c9
              have c9b1 : ((rd t107 0) != 97) = false := bne_eq_false_iff_eq.mpr c9
              clear c9
              by_cases c10 : t118 = 11
              · rw [if_pos c10] at H
                have c10b0 : (t118 == 11) = true := beq_iff_eq.mpr c10
                have c10b1 : (t118 != 11) = false := bne_eq_false_iff_eq.mpr c10
                clear c10
                by_cases c11 : t125 = 1
                · rw [if_pos c11] at H
                  have c11b0 : (t125 == 1) = true := beq_iff_eq.mpr c11
                  have c11b1 : (t125 != 1) = false := bne_eq_false_iff_eq.mpr c11
                  clear c11
                  replace H := Option.bind_eq_some_iff.mp H
                  obtain ⟨t128, A120, H⟩ := H
                  replace H : (if t128 = 3 then ((codec_Named.f (⟨#[120]⟩ : ByteArray)).bind fun t129 => (some (t129 == 0))) else (some false)) = some r := H
                  have A12 := Aside0.mk A120
                  clear A120
                  by_cases c13 : t128 = 3
                  · rw [if_pos c13] at H
                    have c13b0 : (t128 == 3) = true := beq_iff_eq.mpr c13
                    have c13b1 : (t128 != 3) = false := bne_eq_false_iff_eq.mpr c13
                    clear c13
                    replace H := Option.bind_eq_some_iff.mp H
                    obtain ⟨t129, A140, H⟩ := H
                    replace H : (some (t129 == 0)) = some r := H
                    have A14 := Aside0.mk A140
                    clear A140
                    obtain rfl := Option.some.inj H
                    go_enter Tryd.func9, Tryd.ntmps9
                    go_wp2_with (first | ((with_reducible refine gate_dst (N := 8) rfl ?_); (try (refine gate_guard (by rfl) ?_; dsimp only)); refine Kd.R_lit (Kd.int .u8) _ 5 ?hg (N := 8) ?hd (xs := ([255, 254, 97, 0] : List Int)) (inner := [.int .u8 255, .int .u8 254, .int .u8 97, .int .u8 0]) (ok := fun _ => True) (okp := fun _ => True) ?hr ?hp (fun _ hk => hk) trivial (Below.refl _ _) (Nat.le_refl _) (by simp) ?_; (case hd => rfl); (case hg => rfl); (case hr => first | (go_simp; done) | (go_simp; rfl)); (case hp => exact (Reps.one (show Kd.M (Kd.int .u8) _ _ _ 255 [.int .u8 255] from rfl) (Reps.one (show Kd.M (Kd.int .u8) _ _ _ 254 [.int .u8 254] from rfl) (Reps.one (show Kd.M (Kd.int .u8) _ _ _ 97 [.int .u8 97] from rfl) (Reps.one (show Kd.M (Kd.int .u8) _ _ _ 0 [.int .u8 0] from rfl) (Reps.none _ _)))))); intro v102 w15 ho16 hb hg_ hnew_; clear hg_ hnew_; (first | rw [← Ny101.out] at ho16 | (simp only [Int.reduceToNat] at ho16; rw [← Ny101.out] at ho16)); have n0_ := Aside0.mk (Kd.R_lower ho16 (below_size (by repeat (first | (with_reducible first | exact HB.out | apply below_alloc | apply pw_below_drewN | apply below_drew1) | exact HB.out)))); have n1_ := Aside0.mk (below_step (by repeat (first | (with_reducible first | exact HB.out | apply below_alloc | apply pw_below_drewN | apply below_drew1) | exact HB.out)) hb); clear HB; have HO103 := n0_; have HB := n1_; clear n0_ n1_; clear hb ho16; obtain ⟨Ao17, co17, eo17⟩ := Kd.R_slice HO103.out; subst eo17) | ((with_reducible refine gate_callee (f := 12) rfl ?_); refine goesL_ (some 9) rfl rfl Tryd.func12 (by kernel_rfl) rfl #[.int .u8 2, .slice Ao17 y101.length co17] rfl (by (try simp only [List.map_toArray, List.map_cons, List.map_nil]); first | done | rfl | (simp only [List.length_drop, List.length_take]; rfl)) ?_; (with_reducible refine (codec_Decode.calls k 2 _ _ y101 t104 false true t107 t110 _ ?side1 ?side2 ?side3 A1.out).mono ?_); (case side1 => repeat (first | exact (Kd.R_reads' HO103.out).2.2 | (with_reducible refine Kd.C_alloc ?_ _) | (with_reducible refine Kd.C_drewN ?_ _) | (with_reducible refine Kd.C_drew ?_))); (case side2 => exact (Kd.R_reads' HO103.out).2.1); (case side3 => refine gl_below HGL.out ?_; repeat (first | (with_reducible first | exact HB.out | apply below_alloc | apply pw_below_drewN | apply below_drew1) | exact HB.out)); rintro e w18 ⟨v108, rfl, ho0, hb⟩; refine ⟨_, rfl, ?_⟩; have n0_ := Aside0.mk (Kd.R_below (by (with_reducible repeat (first | apply Kd.R_alloc | apply Kd.R_drewN | apply Kd.R_drew)); exact HO103.out) hb); have n1_ := Aside0.mk (Kd.R_lower ho0 (below_size (by repeat (first | (with_reducible first | exact HB.out | apply below_alloc | apply pw_below_drewN | apply below_drew1) | exact HB.out)))); have n2_ := Aside0.mk (below_step (by repeat (first | (with_reducible first | exact HB.out | apply below_alloc | apply pw_below_drewN | apply below_drew1) | exact HB.out)) hb); clear HO103; clear HB; have HO103 := n0_; have HO109 := n1_; have HB := n2_; clear n0_ n1_ n2_; (try clear hb); (try clear hb2); (try clear hk); (try clear hi); (try clear ho0)) | ((with_reducible refine gate_dst (N := 1) rfl ?_); (try (refine gate_guard (by rfl) ?_; dsimp only)); refine box_event ?hg (N := 1) ?hd (cs := #[.int .u8 0, .bool false, .bool false, .slice none 0 0]) (t := 29) ?hr ?_; (case hd => rfl); (case hg => rfl); (case hr => first | (go_simp; done) | (go_simp; rfl)); intro gb111 hg w19 hbox hb; have n0_ := Aside0.mk (Kd.R_below (by (with_reducible repeat (first | apply Kd.R_alloc | apply Kd.R_drewN | apply Kd.R_drew)); exact HO103.out) hb); have n1_ := Aside0.mk (Kd.R_below (by (with_reducible repeat (first | apply Kd.R_alloc | apply Kd.R_drewN | apply Kd.R_drew)); exact HO109.out) hb); have n2_ := Aside0.mk (below_step (by repeat (first | (with_reducible first | exact HB.out | apply below_alloc | apply pw_below_drewN | apply below_drew1) | exact HB.out)) hb); have n3_ := Aside0.mk (hbox); have n4_ := Aside0.mk ((by rw [hg]; exact (below_size (by repeat (first | (with_reducible first | exact HB.out | apply below_alloc | apply pw_below_drewN | apply below_drew1) | exact HB.out))) : w.heap.size ≤ gb111)); have n5_ := Aside0.mk ((by rw [hg]; exact (below_size (by repeat (first | (with_reducible first | exact HB.out | apply below_alloc | apply pw_below_drewN | apply below_drew1) | exact HB.out))) : w.heap.size ≤ gb111)); clear HO103; clear HO109; clear HB; have HO103 := n0_; have HO109 := n1_; have HB := n2_; have BK111 := n3_; have GW111 := n4_; have GE111 := n5_; clear n0_ n1_ n2_ n3_ n4_ n5_; clear hb hbox hg; have hcz20_0 : w19.cell? ⟨gb111, 0, none⟩ = some (.int .u8 0) := (blk_cell BK111.out 0).trans rfl; have hcz20_1 : w19.cell? ⟨gb111, 1, none⟩ = some (.bool false) := (blk_cell BK111.out 1).trans rfl; have hcz20_2 : w19.cell? ⟨gb111, 2, none⟩ = some (.bool false) := (blk_cell BK111.out 2).trans rfl; have hcz20_3 : w19.cell? ⟨gb111, 3, none⟩ = some (.slice none 0 0) := (blk_cell BK111.out 3).trans rfl; have hfz20_0 := blk_frozen BK111.out 0; have hfz20_1 := blk_frozen BK111.out 1; have hfz20_2 := blk_frozen BK111.out 2; have hfz20_3 := blk_frozen BK111.out 3; obtain ⟨Ao21, co21, eo21⟩ := Kd.R_slice HO109.out; subst eo21) | ((with_reducible refine gate_dst (N := 13) rfl ?_); (try (refine gate_guard (by rfl) ?_; dsimp only)); refine Kd.R_lit (Kd.int .i32) _ 37 ?hg (N := 13) ?hd (xs := ([256] : List Int)) (inner := [.int .i32 256]) (ok := fun _ => True) (okp := fun _ => True) ?hr ?hp (fun _ hk => hk) trivial (Below.refl _ _) (Nat.le_refl _) (by simp) ?_; (case hd => rfl); (case hg => rfl); (case hr => first | (go_simp; done) | (go_simp; rfl)); (case hp => exact (Reps.one (show Kd.M (Kd.int .i32) _ _ _ 256 [.int .i32 256] from rfl) (Reps.none _ _))); intro v113 w22 ho23 hb hg_ hnew_; clear hg_ hnew_; (first | rw [← Ny112.out] at ho23 | (simp only [Int.reduceToNat] at ho23; rw [← Ny112.out] at ho23)); have n0_ := Aside0.mk (Kd.R_below (by (with_reducible repeat (first | apply Kd.R_alloc | apply Kd.R_drewN | apply Kd.R_drew)); exact (Kd.R_mono (Kd.R_far (p := ⟨gb111, 3, none⟩) (Kd.R_far (p := ⟨gb111, 2, none⟩) (Kd.R_far (p := ⟨gb111, 1, none⟩) (Kd.R_far (p := ⟨gb111, 0, none⟩) (Kd.R_types HO103.out BK111.out (by decide)) (fun _ hk => hk.2) (.int .u8 t104)) (fun _ hk => hk.2) (.bool false)) (fun _ hk => hk.2) (.bool true)) (fun _ hk => hk.2) (.slice Ao21 t107.length co21)) (fun _ h_ => h_.1))) hb); have n1_ := Aside0.mk (Kd.R_elder' (by (with_reducible repeat (first | apply Kd.R_alloc | apply Kd.R_drewN | apply Kd.R_drew)); exact (Kd.R_mono (Kd.R_far (p := ⟨gb111, 3, none⟩) (Kd.R_far (p := ⟨gb111, 2, none⟩) (Kd.R_far (p := ⟨gb111, 1, none⟩) (Kd.R_far (p := ⟨gb111, 0, none⟩) (Kd.R_types HO109.out BK111.out (by decide)) (fun _ hk => hk.2) (.int .u8 t104)) (fun _ hk => hk.2) (.bool false)) (fun _ hk => hk.2) (.bool true)) (fun _ hk => hk.2) (.slice Ao21 t107.length co21)) (fun _ h_ => h_.1))) (Kd.R_base ho23) hb); have n2_ := Aside0.mk (Kd.R_lower (Kd.R_new' ho23 (Kd.R_lt (by (with_reducible repeat (first | apply Kd.R_alloc | apply Kd.R_drewN | apply Kd.R_drew)); exact (Kd.R_mono (Kd.R_far (p := ⟨gb111, 3, none⟩) (Kd.R_far (p := ⟨gb111, 2, none⟩) (Kd.R_far (p := ⟨gb111, 1, none⟩) (Kd.R_far (p := ⟨gb111, 0, none⟩) (Kd.R_types HO109.out BK111.out (by decide)) (fun _ hk => hk.2) (.int .u8 t104)) (fun _ hk => hk.2) (.bool false)) (fun _ hk => hk.2) (.bool true)) (fun _ hk => hk.2) (.slice Ao21 t107.length co21)) (fun _ h_ => h_.1))))) (below_size (by repeat (first | (with_reducible first | exact HB.out | apply below_alloc | apply pw_below_drewN | apply below_drew1 | refine below_set ?_ GE111.out) | exact HB.out)))); have n3_ := Aside0.mk (blk_below (g := gb111) (o := .cells #[.int .u8 t104, .bool false, .bool true, .slice Ao21 t107.length co21] 29 (0, 0)) (by (with_reducible repeat (first | refine blk_drewN ?_ _ | refine blk_drew ?_ | refine blk_alloc ?_ _)); refine blk_put (cs := #[.int .u8 t104, .bool false, .bool true, .slice none 0 0]) ?_ 3 _ rfl; (with_reducible repeat (first | refine blk_drewN ?_ _ | refine blk_drew ?_ | refine blk_alloc ?_ _)); refine blk_put (cs := #[.int .u8 t104, .bool false, .bool false, .slice none 0 0]) ?_ 2 _ rfl; (with_reducible repeat (first | refine blk_drewN ?_ _ | refine blk_drew ?_ | refine blk_alloc ?_ _)); refine blk_put (cs := #[.int .u8 t104, .bool false, .bool false, .slice none 0 0]) ?_ 1 _ rfl; (with_reducible repeat (first | refine blk_drewN ?_ _ | refine blk_drew ?_ | refine blk_alloc ?_ _)); refine blk_put (cs := #[.int .u8 0, .bool false, .bool false, .slice none 0 0]) ?_ 0 _ rfl; (with_reducible repeat (first | refine blk_drewN ?_ _ | refine blk_drew ?_ | refine blk_alloc ?_ _)); exact BK111.out) hb); have n4_ := Aside0.mk (below_step (by repeat (first | (with_reducible first | exact HB.out | apply below_alloc | apply pw_below_drewN | apply below_drew1 | refine below_set ?_ GE111.out) | exact HB.out)) hb); clear HO103; clear HO109; clear BK111; clear HB; have HO103 := n0_; have HO109 := n1_; have HO114 := n2_; have BK111 := n3_; have HB := n4_; clear n0_ n1_ n2_ n3_ n4_; clear hb ho23; obtain ⟨Ao24, co24, eo24⟩ := Kd.R_slice HO114.out; subst eo24) | ((with_reducible refine gate_callee (f := 13) rfl ?_); refine goesL_ (some 15) rfl rfl Tryd.func13 (by kernel_rfl) rfl #[.agg #[.int .u8 3, .bool false, .bool false, .slice Ao24 y112.length co24]] rfl (by (try simp only [List.map_toArray, List.map_cons, List.map_nil]); first | done | rfl | (simp only [List.length_drop, List.length_take]; rfl)) ?_; (with_reducible refine (codec_Encode.calls k 3 false false _ _ y112 t115 t118 _ ?side1 ?side2 A2.out).mono ?_); (case side1 => repeat (first | exact (Kd.R_reads' HO114.out).2.2 | (with_reducible refine Kd.C_alloc ?_ _) | (with_reducible refine Kd.C_drewN ?_ _) | (with_reducible refine Kd.C_drew ?_))); (case side2 => exact (Kd.R_reads' HO114.out).2.1); rintro e w25 ⟨v116, rfl, ho0, hb⟩; refine ⟨_, rfl, ?_⟩; have n0_ := Aside0.mk (Kd.R_elder' (by (with_reducible repeat (first | apply Kd.R_alloc | apply Kd.R_drewN | apply Kd.R_drew)); exact HO103.out) (Kd.R_base ho0) hb); have n1_ := Aside0.mk (Kd.R_below (by (with_reducible repeat (first | apply Kd.R_alloc | apply Kd.R_drewN | apply Kd.R_drew)); exact HO109.out) hb); have n2_ := Aside0.mk (Kd.R_below (by (with_reducible repeat (first | apply Kd.R_alloc | apply Kd.R_drewN | apply Kd.R_drew)); exact HO114.out) hb); have n3_ := Aside0.mk (Kd.R_lower (Kd.R_new' ho0 (Kd.R_lt (by (with_reducible repeat (first | apply Kd.R_alloc | apply Kd.R_drewN | apply Kd.R_drew)); exact HO103.out))) (below_size (by repeat (first | (with_reducible first | exact HB.out | apply below_alloc | apply pw_below_drewN | apply below_drew1 | refine below_set ?_ GE111.out) | exact HB.out)))); have n4_ := Aside0.mk (blk_below (g := gb111) (o := .cells #[.int .u8 t104, .bool false, .bool true, .slice Ao21 t107.length co21] 29 (0, 0)) (by (with_reducible repeat (first | refine blk_drewN ?_ _ | refine blk_drew ?_ | refine blk_alloc ?_ _)); exact BK111.out) hb); have n5_ := Aside0.mk (below_step (by repeat (first | (with_reducible first | exact HB.out | apply below_alloc | apply pw_below_drewN | apply below_drew1 | refine below_set ?_ GE111.out) | exact HB.out)) hb); clear HO103; clear HO109; clear HO114; clear BK111; clear HB; have HO103 := n0_; have HO109 := n1_; have HO114 := n2_; have HO117 := n3_; have BK111 := n4_; have HB := n5_; clear n0_ n1_ n2_ n3_ n4_ n5_; (try clear hb); (try clear hb2); (try clear hk); (try clear hi); (try clear ho0)) | ((with_reducible refine gate_callee (f := 12) rfl ?_); refine goesL_ (some 19) rfl rfl Tryd.func12 (by kernel_rfl) rfl #[.int .u8 0, .slice none 0 0] rfl (by (try simp only [List.map_toArray, List.map_cons, List.map_nil]); first | done | rfl | (simp only [List.length_drop, List.length_take]; rfl)) ?_; (refine (codec_Decode.calls k 0 _ _ ([] : List Int) t119 t120 t121 t122 t125 _ ?side1 ?side2 ?side3 A3.out).mono ?_); (case side1 => exact Kd.C_nil _ _); (case side2 => exact Nat.le_refl _); (case side3 => refine gl_below HGL.out ?_; repeat (first | (with_reducible first | exact HB.out | apply below_alloc | apply pw_below_drewN | apply below_drew1 | refine below_set ?_ GE111.out) | exact HB.out)); rintro e w26 ⟨v123, rfl, ho0, hb⟩; refine ⟨_, rfl, ?_⟩; have n0_ := Aside0.mk (Kd.R_below (by (with_reducible repeat (first | apply Kd.R_alloc | apply Kd.R_drewN | apply Kd.R_drew)); exact HO103.out) hb); have n1_ := Aside0.mk (Kd.R_elder' (by (with_reducible repeat (first | apply Kd.R_alloc | apply Kd.R_drewN | apply Kd.R_drew)); exact HO109.out) (Kd.R_base ho0) hb); have n2_ := Aside0.mk (Kd.R_elder' (by (with_reducible repeat (first | apply Kd.R_alloc | apply Kd.R_drewN | apply Kd.R_drew)); exact HO114.out) (Kd.R_base ho0) hb); have n3_ := Aside0.mk (Kd.R_below (by (with_reducible repeat (first | apply Kd.R_alloc | apply Kd.R_drewN | apply Kd.R_drew)); exact HO117.out) hb); have n4_ := Aside0.mk (Kd.R_lower (Kd.R_new' (Kd.R_new' ho0 (Kd.R_lt (by (with_reducible repeat (first | apply Kd.R_alloc | apply Kd.R_drewN | apply Kd.R_drew)); exact HO109.out))) (Kd.R_lt (by (with_reducible repeat (first | apply Kd.R_alloc | apply Kd.R_drewN | apply Kd.R_drew)); exact HO114.out))) (below_size (by repeat (first | (with_reducible first | exact HB.out | apply below_alloc | apply pw_below_drewN | apply below_drew1 | refine below_set ?_ GE111.out) | exact HB.out)))); have n5_ := Aside0.mk (blk_below (g := gb111) (o := .cells #[.int .u8 t104, .bool false, .bool true, .slice Ao21 t107.length co21] 29 (0, 0)) (by (with_reducible repeat (first | refine blk_drewN ?_ _ | refine blk_drew ?_ | refine blk_alloc ?_ _)); exact BK111.out) hb); have n6_ := Aside0.mk (below_step (by repeat (first | (with_reducible first | exact HB.out | apply below_alloc | apply pw_below_drewN | apply below_drew1 | refine below_set ?_ GE111.out) | exact HB.out)) hb); clear HO103; clear HO109; clear HO114; clear HO117; clear BK111; clear HB; have HO103 := n0_; have HO109 := n1_; have HO114 := n2_; have HO117 := n3_; have HO124 := n4_; have BK111 := n5_; have HB := n6_; clear n0_ n1_ n2_ n3_ n4_ n5_ n6_; (try clear hb); (try clear hb2); (try clear hk); (try clear hi); (try clear ho0)) | ((with_reducible refine gate_dst (N := 5) rfl ?_); (try (refine gate_guard (by rfl) ?_; dsimp only)); refine box_event ?hg (N := 5) ?hd (cs := #[.int .u8 0, .bool false, .bool false, .slice none 0 0]) (t := 29) ?hr ?_; (case hd => rfl); (case hg => rfl); (case hr => first | (go_simp; done) | (go_simp; rfl)); intro gb126 hg w27 hbox hb; have n0_ := Aside0.mk (Kd.R_below (by (with_reducible repeat (first | apply Kd.R_alloc | apply Kd.R_drewN | apply Kd.R_drew)); exact HO103.out) hb); have n1_ := Aside0.mk (Kd.R_below (by (with_reducible repeat (first | apply Kd.R_alloc | apply Kd.R_drewN | apply Kd.R_drew)); exact HO109.out) hb); have n2_ := Aside0.mk (Kd.R_below (by (with_reducible repeat (first | apply Kd.R_alloc | apply Kd.R_drewN | apply Kd.R_drew)); exact HO114.out) hb); have n3_ := Aside0.mk (Kd.R_below (by (with_reducible repeat (first | apply Kd.R_alloc | apply Kd.R_drewN | apply Kd.R_drew)); exact HO117.out) hb); have n4_ := Aside0.mk (Kd.R_below (by (with_reducible repeat (first | apply Kd.R_alloc | apply Kd.R_drewN | apply Kd.R_drew)); exact HO124.out) hb); have n5_ := Aside0.mk (blk_below (g := gb111) (o := .cells #[.int .u8 t104, .bool false, .bool true, .slice Ao21 t107.length co21] 29 (0, 0)) (by (with_reducible repeat (first | refine blk_drewN ?_ _ | refine blk_drew ?_ | refine blk_alloc ?_ _)); exact BK111.out) hb); have n6_ := Aside0.mk (below_step (by repeat (first | (with_reducible first | exact HB.out | apply below_alloc | apply pw_below_drewN | apply below_drew1 | refine below_set ?_ GE111.out) | exact HB.out)) hb); have n7_ := Aside0.mk (hbox); have n8_ := Aside0.mk ((by rw [hg]; exact (below_size (by repeat (first | (with_reducible first | exact HB.out | apply below_alloc | apply pw_below_drewN | apply below_drew1 | refine below_set ?_ GE111.out) | exact HB.out))) : w.heap.size ≤ gb126)); have n9_ := Aside0.mk ((by rw [hg]; exact (below_size (by repeat (first | (with_reducible first | exact HB.out | apply below_alloc | apply pw_below_drewN | apply below_drew1 | refine below_set ?_ GE111.out) | exact HB.out))) : w.heap.size ≤ gb126)); have n10_ := Aside0.mk ((by rw [hg]; exact Nat.ne_of_lt (blk_lt (g := gb111) (o := .cells #[.int .u8 t104, .bool false, .bool true, .slice Ao21 t107.length co21] 29 (0, 0)) (by (with_reducible repeat (first | refine blk_drewN ?_ _ | refine blk_drew ?_ | refine blk_alloc ?_ _)); exact BK111.out)) : gb111 ≠ gb126)); have n11_ := Aside0.mk ((by rw [hg]; exact Nat.ne_of_gt (blk_lt (g := gb111) (o := .cells #[.int .u8 t104, .bool false, .bool true, .slice Ao21 t107.length co21] 29 (0, 0)) (by (with_reducible repeat (first | refine blk_drewN ?_ _ | refine blk_drew ?_ | refine blk_alloc ?_ _)); exact BK111.out)) : gb126 ≠ gb111)); clear HO103; clear HO109; clear HO114; clear HO117; clear HO124; clear BK111; clear HB; have HO103 := n0_; have HO109 := n1_; have HO114 := n2_; have HO117 := n3_; have HO124 := n4_; have BK111 := n5_; have HB := n6_; have BK126 := n7_; have GW126 := n8_; have GE126 := n9_; have NB111_126 := n10_; have NB126_111 := n11_; clear n0_ n1_ n2_ n3_ n4_ n5_ n6_ n7_ n8_ n9_ n10_ n11_; clear hb hbox hg; have hnb28 := NB126_111.out; have hnc28 := NB111_126.out; have hcz29_0 : w27.cell? ⟨gb126, 0, none⟩ = some (.int .u8 0) := (blk_cell BK126.out 0).trans rfl; have hcz29_1 : w27.cell? ⟨gb126, 1, none⟩ = some (.bool false) := (blk_cell BK126.out 1).trans rfl; have hcz29_2 : w27.cell? ⟨gb126, 2, none⟩ = some (.bool false) := (blk_cell BK126.out 2).trans rfl; have hcz29_3 : w27.cell? ⟨gb126, 3, none⟩ = some (.slice none 0 0) := (blk_cell BK126.out 3).trans rfl; have hfz29_0 := blk_frozen BK126.out 0; have hfz29_1 := blk_frozen BK126.out 1; have hfz29_2 := blk_frozen BK126.out 2; have hfz29_3 := blk_frozen BK126.out 3; obtain ⟨Ao30, co30, eo30⟩ := Kd.R_slice HO124.out; subst eo30; have hcz31_0 : w27.cell? ⟨gb111, 0, none⟩ = some (.int .u8 t104) := (blk_cell BK111.out 0).trans rfl; have hcz31_1 : w27.cell? ⟨gb111, 1, none⟩ = some (.bool false) := (blk_cell BK111.out 1).trans rfl; have hcz31_2 : w27.cell? ⟨gb111, 2, none⟩ = some (.bool true) := (blk_cell BK111.out 2).trans rfl; have hcz31_3 : w27.cell? ⟨gb111, 3, none⟩ = some (.slice Ao21 t107.length co21) := (blk_cell BK111.out 3).trans rfl; have hfz31_0 := blk_frozen BK111.out 0; have hfz31_1 := blk_frozen BK111.out 1; have hfz31_2 := blk_frozen BK111.out 2; have hfz31_3 := blk_frozen BK111.out 3; have p127 : 0 ≤ (0 : Int) := (by omega); have q127 : 0 < (t107.length : Int) := of_decide_eq_true (by first | (with_reducible assumption) | assumption); obtain ⟨ad127, e127, hx127_0⟩ := Kd.at_int (Kd.R_reads' HO109.out).2.2 0 p127 q127; cases e127; have qi127 : (0 < t107.length) = True := eq_true (by omega); (try rw [show ((0 : Int)).toNat = 0 from rfl] at hx127_0); (try rw [Addr.add_zero'] at hx127_0); have hn127_0 : ad127.block ≠ gb126 := Kd.own_blk (Kd.R_ne HO109.out BK126.out (by decide)); have hn127_1 : ad127.block ≠ gb126 := Kd.own_blk (Kd.R_ne HO109.out BK126.out (by decide)); have hn127_2 : ad127.block ≠ gb126 := Kd.own_blk (Kd.R_ne HO109.out BK126.out (by decide)); have hn127_3 : ad127.block ≠ gb126 := Kd.own_blk (Kd.R_ne HO109.out BK126.out (by decide)); replace hx127_0 := (cell_far (p := ⟨gb126, 0, none⟩) (by first | (rw [add_block]; exact hn127_0) | (show (Addr.add _ _).block ≠ _; rw [add_block]; exact hn127_0) | exact hn127_0) (.int .u8 t119)).trans hx127_0; replace hx127_0 := (cell_far (p := ⟨gb126, 1, none⟩) (by first | (rw [add_block]; exact hn127_1) | (show (Addr.add _ _).block ≠ _; rw [add_block]; exact hn127_1) | exact hn127_1) (.bool t120)).trans hx127_0; replace hx127_0 := (cell_far (p := ⟨gb126, 2, none⟩) (by first | (rw [add_block]; exact hn127_2) | (show (Addr.add _ _).block ≠ _; rw [add_block]; exact hn127_2) | exact hn127_2) (.bool t121)).trans hx127_0; replace hx127_0 := (cell_far (p := ⟨gb126, 3, none⟩) (by first | (rw [add_block]; exact hn127_3) | (show (Addr.add _ _).block ≠ _; rw [add_block]; exact hn127_3) | exact hn127_3) (.slice Ao30 t122.length co30)).trans hx127_0; clear hn127_0; clear hn127_1; clear hn127_2; clear hn127_3; replace p127 := eq_true p127; replace q127 := eq_true q127) | (go_at_call 20; (with_reducible refine (codec_Named.calls (⟨#[108, 97, 116, 105, 110, 49]⟩ : ByteArray) t128 _ A12.out).mono ?_); rintro e w32 ⟨rfl, hb⟩; have n0_ := Aside0.mk (Kd.R_below (by (with_reducible repeat (first | apply Kd.R_alloc | apply Kd.R_drewN | apply Kd.R_drew)); exact (Kd.R_mono (Kd.R_far (p := ⟨gb126, 3, none⟩) (Kd.R_far (p := ⟨gb126, 2, none⟩) (Kd.R_far (p := ⟨gb126, 1, none⟩) (Kd.R_far (p := ⟨gb126, 0, none⟩) (Kd.R_types HO103.out BK126.out (by decide)) (fun _ hk => hk.2) (.int .u8 t119)) (fun _ hk => hk.2) (.bool t120)) (fun _ hk => hk.2) (.bool t121)) (fun _ hk => hk.2) (.slice Ao30 t122.length co30)) (fun _ h_ => h_.1))) hb); have n1_ := Aside0.mk (Kd.R_below (by (with_reducible repeat (first | apply Kd.R_alloc | apply Kd.R_drewN | apply Kd.R_drew)); exact (Kd.R_mono (Kd.R_far (p := ⟨gb126, 3, none⟩) (Kd.R_far (p := ⟨gb126, 2, none⟩) (Kd.R_far (p := ⟨gb126, 1, none⟩) (Kd.R_far (p := ⟨gb126, 0, none⟩) (Kd.R_types HO109.out BK126.out (by decide)) (fun _ hk => hk.2) (.int .u8 t119)) (fun _ hk => hk.2) (.bool t120)) (fun _ hk => hk.2) (.bool t121)) (fun _ hk => hk.2) (.slice Ao30 t122.length co30)) (fun _ h_ => h_.1))) hb); have n2_ := Aside0.mk (Kd.R_below (by (with_reducible repeat (first | apply Kd.R_alloc | apply Kd.R_drewN | apply Kd.R_drew)); exact (Kd.R_mono (Kd.R_far (p := ⟨gb126, 3, none⟩) (Kd.R_far (p := ⟨gb126, 2, none⟩) (Kd.R_far (p := ⟨gb126, 1, none⟩) (Kd.R_far (p := ⟨gb126, 0, none⟩) (Kd.R_types HO114.out BK126.out (by decide)) (fun _ hk => hk.2) (.int .u8 t119)) (fun _ hk => hk.2) (.bool t120)) (fun _ hk => hk.2) (.bool t121)) (fun _ hk => hk.2) (.slice Ao30 t122.length co30)) (fun _ h_ => h_.1))) hb); have n3_ := Aside0.mk (Kd.R_below (by (with_reducible repeat (first | apply Kd.R_alloc | apply Kd.R_drewN | apply Kd.R_drew)); exact (Kd.R_mono (Kd.R_far (p := ⟨gb126, 3, none⟩) (Kd.R_far (p := ⟨gb126, 2, none⟩) (Kd.R_far (p := ⟨gb126, 1, none⟩) (Kd.R_far (p := ⟨gb126, 0, none⟩) (Kd.R_types HO117.out BK126.out (by decide)) (fun _ hk => hk.2) (.int .u8 t119)) (fun _ hk => hk.2) (.bool t120)) (fun _ hk => hk.2) (.bool t121)) (fun _ hk => hk.2) (.slice Ao30 t122.length co30)) (fun _ h_ => h_.1))) hb); have n4_ := Aside0.mk (Kd.R_below (by (with_reducible repeat (first | apply Kd.R_alloc | apply Kd.R_drewN | apply Kd.R_drew)); exact (Kd.R_mono (Kd.R_far (p := ⟨gb126, 3, none⟩) (Kd.R_far (p := ⟨gb126, 2, none⟩) (Kd.R_far (p := ⟨gb126, 1, none⟩) (Kd.R_far (p := ⟨gb126, 0, none⟩) (Kd.R_types HO124.out BK126.out (by decide)) (fun _ hk => hk.2) (.int .u8 t119)) (fun _ hk => hk.2) (.bool t120)) (fun _ hk => hk.2) (.bool t121)) (fun _ hk => hk.2) (.slice Ao30 t122.length co30)) (fun _ h_ => h_.1))) hb); have n5_ := Aside0.mk (blk_below (g := gb111) (o := .cells #[.int .u8 t104, .bool false, .bool true, .slice (some ad127) t107.length co21] 29 (0, 0)) (by (with_reducible repeat (first | refine blk_drewN ?_ _ | refine blk_drew ?_ | refine blk_alloc ?_ _)); refine blk_far ?_ NB111_126.out _; (with_reducible repeat (first | refine blk_drewN ?_ _ | refine blk_drew ?_ | refine blk_alloc ?_ _)); refine blk_far ?_ NB111_126.out _; (with_reducible repeat (first | refine blk_drewN ?_ _ | refine blk_drew ?_ | refine blk_alloc ?_ _)); refine blk_far ?_ NB111_126.out _; (with_reducible repeat (first | refine blk_drewN ?_ _ | refine blk_drew ?_ | refine blk_alloc ?_ _)); refine blk_far ?_ NB111_126.out _; (with_reducible repeat (first | refine blk_drewN ?_ _ | refine blk_drew ?_ | refine blk_alloc ?_ _)); exact BK111.out) hb); have n6_ := Aside0.mk (blk_below (g := gb126) (o := .cells #[.int .u8 t119, .bool t120, .bool t121, .slice Ao30 t122.length co30] 29 (0, 0)) (by (with_reducible repeat (first | refine blk_drewN ?_ _ | refine blk_drew ?_ | refine blk_alloc ?_ _)); refine blk_put (cs := #[.int .u8 t119, .bool t120, .bool t121, .slice none 0 0]) ?_ 3 _ rfl; (with_reducible repeat (first | refine blk_drewN ?_ _ | refine blk_drew ?_ | refine blk_alloc ?_ _)); refine blk_put (cs := #[.int .u8 t119, .bool t120, .bool false, .slice none 0 0]) ?_ 2 _ rfl; (with_reducible repeat (first | refine blk_drewN ?_ _ | refine blk_drew ?_ | refine blk_alloc ?_ _)); refine blk_put (cs := #[.int .u8 t119, .bool false, .bool false, .slice none 0 0]) ?_ 1 _ rfl; (with_reducible repeat (first | refine blk_drewN ?_ _ | refine blk_drew ?_ | refine blk_alloc ?_ _)); refine blk_put (cs := #[.int .u8 0, .bool false, .bool false, .slice none 0 0]) ?_ 0 _ rfl; (with_reducible repeat (first | refine blk_drewN ?_ _ | refine blk_drew ?_ | refine blk_alloc ?_ _)); exact BK126.out) hb); have n7_ := Aside0.mk (below_step (by repeat (first | (with_reducible first | exact HB.out | apply below_alloc | apply pw_below_drewN | apply below_drew1 | refine below_set ?_ GE111.out | refine below_set ?_ GE126.out) | exact HB.out)) hb); clear HO103; clear HO109; clear HO114; clear HO117; clear HO124; clear BK111; clear BK126; clear HB; have HO103 := n0_; have HO109 := n1_; have HO114 := n2_; have HO117 := n3_; have HO124 := n4_; have BK111 := n5_; have BK126 := n6_; have HB := n7_; clear n0_ n1_ n2_ n3_ n4_ n5_ n6_ n7_; (try clear hb); (try clear hb2); (try clear hk); (try clear hi); (try clear A12)) | (go_at_call 20; (with_reducible refine (codec_Named.calls (⟨#[120]⟩ : ByteArray) t129 _ A14.out).mono ?_); rintro e w33 ⟨rfl, hb⟩; have n0_ := Aside0.mk (Kd.R_below (by (with_reducible repeat (first | apply Kd.R_alloc | apply Kd.R_drewN | apply Kd.R_drew)); exact HO103.out) hb); have n1_ := Aside0.mk (Kd.R_below (by (with_reducible repeat (first | apply Kd.R_alloc | apply Kd.R_drewN | apply Kd.R_drew)); exact HO109.out) hb); have n2_ := Aside0.mk (Kd.R_below (by (with_reducible repeat (first | apply Kd.R_alloc | apply Kd.R_drewN | apply Kd.R_drew)); exact HO114.out) hb); have n3_ := Aside0.mk (Kd.R_below (by (with_reducible repeat (first | apply Kd.R_alloc | apply Kd.R_drewN | apply Kd.R_drew)); exact HO117.out) hb); have n4_ := Aside0.mk (Kd.R_below (by (with_reducible repeat (first | apply Kd.R_alloc | apply Kd.R_drewN | apply Kd.R_drew)); exact HO124.out) hb); have n5_ := Aside0.mk (blk_below (g := gb111) (o := .cells #[.int .u8 t104, .bool false, .bool true, .slice (some ad127) t107.length co21] 29 (0, 0)) (by (with_reducible repeat (first | refine blk_drewN ?_ _ | refine blk_drew ?_ | refine blk_alloc ?_ _)); exact BK111.out) hb); have n6_ := Aside0.mk (blk_below (g := gb126) (o := .cells #[.int .u8 t119, .bool t120, .bool t121, .slice Ao30 t122.length co30] 29 (0, 0)) (by (with_reducible repeat (first | refine blk_drewN ?_ _ | refine blk_drew ?_ | refine blk_alloc ?_ _)); exact BK126.out) hb); have n7_ := Aside0.mk (below_step (by repeat (first | (with_reducible first | exact HB.out | apply below_alloc | apply pw_below_drewN | apply below_drew1 | refine below_set ?_ GE111.out | refine below_set ?_ GE126.out) | exact HB.out)) hb); clear HO103; clear HO109; clear HO114; clear HO117; clear HO124; clear BK111; clear BK126; clear HB; have HO103 := n0_; have HO109 := n1_; have HO114 := n2_; have HO117 := n3_; have HO124 := n4_; have BK111 := n5_; have BK126 := n6_; have HB := n7_; clear n0_ n1_ n2_ n3_ n4_ n5_ n6_ n7_; (try clear hb); (try clear hb2); (try clear hk); (try clear hi); (try clear A14)))
                    all_goals go_ret
                    all_goals exact ⟨by first | rfl | (simp [errW_none, errW_some] <;> rfl) | (simp [*, errW_none, errW_some] <;> rfl), by repeat (first | (with_reducible first | exact HB.out | apply below_alloc | apply pw_below_drewN | apply below_drew1 | refine below_set ?_ GE111.out | refine below_set ?_ GE126.out) | exact HB.out)⟩
                  · rw [if_neg c13] at H
                    have c13b0 : (t128 == 3) = false := beq_eq_false_iff_ne.mpr c13
                    have c13b1 : (t128 != 3) = true := bne_iff_ne.mpr c13
                    exact absurd (Option.some.inj H) (by rw [hrt.out]; decide)
                · rw [if_neg c11] at H
                  have c11b0 : (t125 == 1) = false := beq_eq_false_iff_ne.mpr c11
                  have c11b1 : (t125 != 1) = true := bne_iff_ne.mpr c11
                  exact absurd (Option.some.inj H) (by rw [hrt.out]; decide)
              · rw [if_neg c10] at H
                have c10b0 : (t118 == 11) = false := beq_eq_false_iff_ne.mpr c10
                have c10b1 : (t118 != 11) = true := bne_iff_ne.mpr c10
                exact absurd (Option.some.inj H) (by rw [hrt.out]; decide)
            · rw [if_neg c9] at H
              have c9b0 : ((rd t107 0) == 97) = false := beq_eq_false_iff_ne.mpr c9
              have c9b1 : ((rd t107 0) != 97) = true := bne_iff_ne.mpr c9
              exact absurd (Option.some.inj H) (by rw [hrt.out]; decide)
          · rw [if_neg c8] at H
            exact absurd H (by simp)
        · rw [if_neg c7] at H
          have c7b0 : ((t107.length : Int) == 1) = false := beq_eq_false_iff_ne.mpr c7
          have c7b1 : ((t107.length : Int) != 1) = true := bne_iff_ne.mpr c7
          exact absurd (Option.some.inj H) (by rw [hrt.out]; decide)
    · replace c5 := Bool.eq_false_iff.mpr c5
      subst c5
      have H1 : (some false) = some r := by rw [if_neg (show ¬ (false = true) by decide)] at H; exact H
      clear H
      have H := H1
      clear H1
      exact absurd (Option.some.inj H) (by rw [hrt.out]; decide)
  · rw [if_neg c4] at H
    have c4b0 : (t110 == 0) = false := beq_eq_false_iff_ne.mpr c4
    have c4b1 : (t110 != 0) = true := bne_iff_ne.mpr c4
    exact absurd (Option.some.inj H) (by rw [hrt.out]; decide)

/-- THE ONE PURE STATEMENT of redactorlaw04_known: yours. -/
def redactorlaw04_known.Pure : Prop := ∃ k, redactorlaw04_known.f k  = some true
theorem redactorlaw04_known.walk (P : redactorlaw04_known.Pure)  (w : World)  (hGL : (Lib.Utf8Tabs 0 1) w) :
    Calls Tryd.prog 9 #[] w fun e w' => e = .returned (.bool true) ∧ Below w.heap.size w w' := by
  obtain ⟨k, h⟩ := P  
  refine (redactorlaw04_known.calls k  true w hGL ⟨rfl⟩ h).mono ?_
  rintro e w' ⟨rfl, hd⟩
  exact ⟨rfl, hd⟩

end Go.Proofs.YtcofbakhhcgbfaaDoor.KN

/- The chapter's examples (redactorlaw04.known), told as a function that tells only its answer true: 'f' tells true where the printed function does. Conditions: the world holds the tables of unicode/utf8. -/
namespace Go.Proofs.YtcofbakhhcgbfaaDoor.KX
open Go.RowKit Go.Proofs.YtcofbakhhcgbfaaDoorW.PrintWords Go.Proofs.YtcofbakhhcgbfaaDoorW.PrintLast
def redactorlaw04_known.f (k : Nat) : Option Bool := if KN.redactorlaw04_known.f k = some true then some true else none
theorem redactorlaw04_known.mono : ∀ k, LeO (redactorlaw04_known.f k) (redactorlaw04_known.f (k + 1)) := by
  intro k r h
  unfold redactorlaw04_known.f at h ⊢
  by_cases c : KN.redactorlaw04_known.f k = some true
  · rw [if_pos c] at h
    rw [if_pos (KN.redactorlaw04_known.mono k _ c)]
    exact h
  · rw [if_neg c] at h
    cases h
theorem redactorlaw04_known.calls (k : Nat) (r : Bool) (w : World) (hGL : (Lib.Utf8Tabs 0 1) w) (h : redactorlaw04_known.f k = some r) :
    Calls Tryd.prog 9 #[] w fun e w' => e = .returned (.bool r) ∧ Below w.heap.size w w' := by
  unfold redactorlaw04_known.f at h
  by_cases c : KN.redactorlaw04_known.f k = some true
  · rw [if_pos c] at h
    obtain rfl := Option.some.inj h
    exact KN.redactorlaw04_known.calls k true w hGL ⟨rfl⟩ c
  · rw [if_neg c] at h
    cases h
theorem redactorlaw04_known.told (k : Nat) (h : KN.redactorlaw04_known.f k = some true) : redactorlaw04_known.f k = some true := by
  unfold redactorlaw04_known.f
  rw [if_pos h]
end Go.Proofs.YtcofbakhhcgbfaaDoor.KX
