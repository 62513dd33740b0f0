/- The law CodecEncodes: for every input that its row speaks of it returns true, and each argument reads as it did. Conditions: the row's own (the listed variables read as the program's text lays them, which the card ties). -/
import Derived.Test.YtcofbakhhcgbfaaDoorRows
import Derived.Test.YtcofbakhhcgbfaaDoorCards
import Derived.Test.YtcofbakhhcgbfaaDoorTie
import Derived.Lay
import Derived.ProofKit
import Derived.SevenTiedAt
import Derived.Test.YtcofbakhhcgbfaaDoorExtGl
import Derived.Test.YtcofbakhhcgbfaaDoorPZ5
import Derived.Test.YtcofbakhhcgbfaaDoorPureCodecEncodes
import Derived.WalkKit
import Derived.OpenShut
import Derived.ShutString
import Derived.ChangeOld
import Derived.Below
import Derived.SizedLaws
import Derived.Lib.SmallJoins
import Derived.Test.YtcofbakhhcgbfaaDoorWSized
namespace Go.Proofs.YtcofbakhhcgbfaaDoor.codecEncodes
open Go.ChangeShapes Go.WideShapes Go.ChangeAt Go.RowKit
open Go.ChangeMaps (open_string shut_string)
open Go.Proofs.YtcofbakhhcgbfaaDoorW.PrintWords Go.Proofs.YtcofbakhhcgbfaaDoorW.PrintLast
set_option linter.unusedVariables false
theorem own : ownKnob Tryd.prog.godebug = none := by kernel_rfl
theorem laidOut : laidOutB Tryd.prog = true := by kernel_rfl
def IsRow (k : IntKind) (w : World) (a : Option Addr) (len cap : Nat) (zs : List Int) : Prop :=
  (a = none ∧ len = 0 ∧ cap = 0 ∧ zs = []) ∨
  ∃ x, a = some x ∧ len ≤ cap ∧ cap ≤ maxLen ∧ zs.length = cap ∧ (∀ i, i < zs.length → w.cell? (x.add i) = some (.int k (zs.getD i 0))) ∧ ∀ n ∈ zs, (Lit.int k n).wf = true
theorem walk (a0 : Int) (b1 b2 : Bool) (a3 : Option Addr) (len3 cap3 : Nat) (z3 : List Int) (a1 : Option Addr) (len1 cap1 : Nat) (z1 : List Int) (e : Int) (big bm : Bool) (s : ByteArray) (w : World)
    (w0 : (Lit.int .u8 a0).wf = true) (w3 : IsRow .i32 w a3 len3 cap3 z3) (w1 : IsRow .u8 w a1 len1 cap1 z1) (y1 : len1 * 1 ≤ 140737488351232) (w2 : (Lit.int .u8 e).wf = true) (hGL : Lib.Utf8Tabs 0 1 w) :
    Calls Tryd.prog 8 #[.agg #[.int .u8 a0, .bool b1, .bool b2, .slice a3 len3 cap3], .slice a1 len1 cap1, .int .u8 e, .bool big, .bool bm, .string s] w fun e w' => e = .returned (.bool true) ∧ Below w.heap.size w w' := by
  obtain ⟨l3, rfl, hr3, hm3, hw3, hc3⟩ := ReadsInt.ofRowC w3
  obtain ⟨l1, rfl, hr1, hm1, hw1, hc1⟩ := ReadsInt.ofRowC w1
  obtain ⟨k, h⟩ := Pure.CodecEncodes a0 b1 b2 l3 l1 e big bm s (Utf.wf_u8 w0).1 (Utf.wf_bytes hw1) (by omega) (Utf.wf_u8 w2).1
  refine (PZ.redactorlaw04_CodecEncodes.calls k a0 b1 b2 _ _ l3 _ _ l1 e big bm s true w (Kd.C_of_reads (d := (0 : Int)) (h1 := fun _ => rfl) hr3) hc3 (Kd.C_of_reads (d := (0 : Int)) (h1 := fun _ => rfl) hr1) hc1 hGL ⟨rfl⟩ h).mono ?_
  rintro e w' ⟨rfl, hd⟩
  exact ⟨rfl, hd⟩
set_option maxRecDepth 100000 in
theorem lifted (os : Os) (started : os.Started) (H : Type) (enc : TypeId × Value → H) :
    ReturnsInHanded {} Tryd.checked os 8 .any (fun w args => (Rows.codecEncodesSpec.pre enc Tryd.prog Tryd.f8 [] false w args ∧ laidMetH Tryd.prog Rows.codecEncodesRow.laid w) ∧ sizedMet enc Tryd.prog Tryd.f8 (OpenSpec.ofChange Rows.codecEncodesSpec) false w args)
      (Rows.codecEncodesSpec.post enc Tryd.prog Tryd.f8 false true false false) := by
  refine returnsInHanded_of_change_and (C := Tryd.checked) (X := fun w _ => laidMetH Tryd.prog Rows.codecEncodesRow.laid w) (fun _ _ _ hh h => h.of_heap hh) own started (by kernel_rfl) Tryd.func8
    (ChangeSpec.witness_shaped (enc := enc) (C := Tryd.checked) (os := os) (X := fun w _ => laidMetH Tryd.prog Rows.codecEncodesRow.laid w) false (World.laidAll Tryd.prog os Rows.codecEncodesRow.laid) #[.agg #[.int .u8 0, .bool false, .bool false, .slice none 0 0], .slice none 0 0, .int .u8 0, .bool false, .bool false, .string ByteArray.empty] 8 (World.laidAll_os _ _ _)
      (World.shaped_of_ZipB (by kernel_rfl) (by kernel_rfl)) (by kernel_rfl) (by kernel_rfl) (by kernel_rfl)
      (by rw [MakeChecks.laidMetH_plain _ _ _ (by kernel_rfl)]; exact laidMet_laidAll _ (by kernel_rfl) (by kernel_rfl))) ?_
  intro W base args ds gs before hval0 hW hcnd hsz0 hL _
  have hsz : (DataW.weightsEach Tryd.prog (Tryd.f8.params.toList ++ Rows.codecEncodesSpec.plain.varTypes Tryd.prog) (ds ++ gs)).all (· ≤ reachBytes) = true := hsz0
  have hval : ∀ (j : Nat) t v, Tryd.f8.params[j]? = some t → args[j]? = some v → Value.okWide Tryd.prog W .any base t v := hval0
  have hW' := hW
  obtain ⟨p, q, hA0, hV, rfl, hfz, hnd⟩ := hW
  have hA : DataW.TrodAll enc Tryd.prog W 0 (fun _ => true) true Tryd.f8.params.toList args.toList ds p := hA0
  rw [Tryd.params8] at hA hval hsz
  obtain ⟨v0, vs0, d0, ds0, p0, q0, hargs, rfl, rfl, h0, r0⟩ := trodAll_cons hA
  obtain ⟨v1, vs1, d1, ds1, p1, q1, rfl, rfl, rfl, h1, r1⟩ := trodAll_cons r0
  obtain ⟨v2, vs2, d2, ds2, p2, q2, rfl, rfl, rfl, h2, r2⟩ := trodAll_cons r1
  obtain ⟨v3, vs3, d3, ds3, p3, q3, rfl, rfl, rfl, h3, r3⟩ := trodAll_cons r2
  obtain ⟨v4, vs4, d4, ds4, p4, q4, rfl, rfl, rfl, h4, r4⟩ := trodAll_cons r3
  obtain ⟨v5, vs5, d5, ds5, p5, q5, rfl, rfl, rfl, h5, r5⟩ := trodAll_cons r4
  obtain ⟨rfl, rfl, rfl⟩ := trodAll_nil r5
  obtain rfl : args = #[v0, v1, v2, v3, v4, v5] := by cases args; simp_all
  obtain ⟨rfl, rfl⟩ := trodVars_none hV
  have k0 := h0
  have lt0 : ∀ x ∈ p0, x.block < W.heap.size := by obtain ⟨m, hm⟩ := k0; exact DataW.trod_lt m _ _ _ hm
  obtain ⟨x0, x1, x2, x3, yy0, yy1, yy2, yy3, n0, rfl, hd0, hp0, t0, t1, t2, t3⟩ := Go.Joins.open_agg4 Tryd.underlying29 (by kernel_rfl) (by kernel_rfl) (hval 0 29 v0 rfl rfl) h0
  obtain ⟨a0, hx0, _, w0⟩ := DataW.trod_int Tryd.underlying5 t0
  obtain ⟨b1, hx1, _⟩ := DataW.trod_bool Tryd.underlying4 t1
  obtain ⟨b2, hx2, _⟩ := DataW.trod_bool Tryd.underlying4 t2
  obtain rfl := (List.cons.inj hx0).1
  obtain rfl := (List.cons.inj hx1).1
  obtain rfl := (List.cons.inj hx2).1
  obtain ⟨s3, len3, cap3, z3, hx3, w3⟩ : ∃ (a : Option Addr) (len cap : Nat) (zs : List Int), x3 = .slice a len cap ∧ IsRow .i32 W a len cap zs := by
    rcases open_ints Tryd.underlying27 Tryd.underlying37 (by kernel_rfl) t3 with ⟨hcs, _⟩ | ⟨x, l, c, zs, hcs, _, hl, hm, hz, _, hcell, hwz⟩
    · exact ⟨none, 0, 0, [], (List.cons.inj hcs).1, .inl ⟨rfl, rfl, rfl, rfl⟩⟩
    · exact ⟨some x, l, c, zs, (List.cons.inj hcs).1, .inr ⟨_, rfl, hl, hm, by simpa using hz, hcell, hwz⟩⟩
  subst hx3
  obtain ⟨a1, len1, cap1, rfl⟩ := okWide_slice Tryd.underlying22 (hval 1 22 v1 rfl rfl)
  have k1 := h1
  have lt1 : ∀ x ∈ p1, x.block < W.heap.size := by obtain ⟨m, hm⟩ := k1; exact DataW.trod_lt m _ _ _ hm
  obtain ⟨z1, w1⟩ : ∃ zs, IsRow .u8 W a1 len1 cap1 zs := by
    obtain ⟨fuel, hf⟩ := h1
    rcases open_ints Tryd.underlying22 Tryd.underlying5 (by kernel_rfl) hf with ⟨hcs, _⟩ | ⟨x, l, c, zs, hcs, _, hl, hm, hz, _, hcell, hwz⟩
    · simp [Value.cells] at hcs
      obtain ⟨rfl, rfl, rfl⟩ := hcs
      exact ⟨[], .inl ⟨rfl, rfl, rfl, rfl⟩⟩
    · simp [Value.cells] at hcs
      obtain ⟨rfl, rfl, rfl⟩ := hcs
      exact ⟨zs, .inr ⟨_, rfl, hl, hm, by simpa using hz, hcell, hwz⟩⟩
  have y1 : len1 * 1 ≤ 140737488351232 := _root_.Go.Proofs.YtcofbakhhcgbfaaDoorW.PrintWords.sized_ints hsz (j := 1) (t := 22) rfl rfl Tryd.underlying22 Tryd.underlying5 (by kernel_rfl) (by kernel_rfl) h1
  obtain ⟨a2, rfl, rfl, rfl, w2⟩ := open_int Tryd.underlying5 (hval 2 5 v2 rfl rfl) h2
  obtain ⟨a3, rfl, rfl, rfl⟩ := open_bool Tryd.underlying4 (hval 3 4 v3 rfl rfl) h3
  obtain ⟨a4, rfl, rfl, rfl⟩ := open_bool Tryd.underlying4 (hval 4 4 v4 rfl rfl) h4
  obtain ⟨a5, rfl, rfl, rfl, y5⟩ := open_string Tryd.underlying9 (hval 5 9 v5 rfl rfl) h5
  rw [MakeChecks.laidMetH_plain _ _ _ (by kernel_rfl)] at hL
  have hGL : Lib.Utf8Tabs 0 1 W := ExtGl.gl_of_laid hL (by simp [Rows.codecEncodesRow]) (by simp [Rows.codecEncodesRow])
  clear hA0 hval0 hsz0 hsz
  refine (walk a0 b1 b2 s3 len3 cap3 z3 a1 len1 cap1 z1 a2 a3 a4 a5 W w0 w3 w1 y1 w2 hGL).mono fun e W' ⟨he, bel⟩ => ?_
  subst he
  exact ⟨_, rfl, _, _, _, [], _, [], hW', trodAll_mk1 (shut_bool Tryd.underlying4 _), (trodAll_cons_mk (Below.trod laidOut (by kernel_rfl) (of_decide_eq_true (by kernel_rfl)) k0 bel lt0) (trodAll_cons_mk (Below.trod laidOut (by kernel_rfl) (of_decide_eq_true (by kernel_rfl)) k1 bel lt1) (trodAll_cons_mk (shut_int Tryd.underlying5 w2) (trodAll_cons_mk (shut_bool Tryd.underlying4 _) (trodAll_cons_mk (shut_bool Tryd.underlying4 _) (trodAll_cons_mk (shut_string Tryd.underlying9 y5) trodAll_mk0)))))), rfl, bel.frame _, fun h => by cases h⟩
theorem over : Rows.codecEncodesRow.holds Tryd.pinned (OpenSpec.ofChange Rows.codecEncodesSpec) :=
  OpenClaim.holds_of_wide 8 Tryd.f8 rfl rfl rfl rfl rfl rfl rfl ⟨rfl, rfl, rfl, rfl, rfl⟩ rfl rfl rfl rfl rfl (by kernel_rfl) Tryd.func8 (by kernel_rfl)
    (of_decide_eq_true (by kernel_rfl)) (by unfold Func.isWrapper; first | (rw [if_pos (by decide +kernel)]; kernel_rfl) | (rw [if_neg (by decide +kernel)]; exact ⟨rfl, rfl⟩))
    (fun os started H enc _ => lifted os started H enc)
theorem proved : Rows.CodecEncodesSaid := over
theorem card : Rows.CodecEncodesCardSaid :=
  Claim7.holds_tied_plain_at .later [] [.data, .pinned] true (true, "0e8d6336c1d0dd731cafc748e44232b0fe40b2ee9cef936580bf117c6fa285b7") false proved (fun _ h => by cases h) (by kernel_rfl) (fun _ h => by cases h) codecEncodes_row_tie rfl ⟨rfl, rfl⟩ (by kernel_rfl) rfl
    (fun f fn hf hfn => by
      obtain rfl : f = 8 := Option.some.inj ((show Tryd.prog.funcNamed "redactor/redactorlaw04.CodecEncodes" = some 8 by kernel_rfl).symm.trans hf) |>.symm
      obtain rfl : fn = Tryd.f8 := (Option.some.inj (Tryd.func8.symm.trans hfn)).symm
      exact ⟨by kernel_rfl, fun j t ht => by
        rw [Tryd.params8] at ht
        have hm : t ∈ [29, 22, 5, 4, 4, 9] := by simpa using Array.mem_of_getElem? ht
        have hall : ([29, 22, 5, 4, 4, 9].all fun u => !Tryd.prog.wantsStandIn u) = true := by kernel_rfl
        exact (show Tryd.prog.wantsStandIn t = false by simpa using List.all_eq_true.1 hall t hm)⟩)
    (by kernel_rfl)
#print axioms card
end Go.Proofs.YtcofbakhhcgbfaaDoor.codecEncodes
namespace Go.Proofs.YtcofbakhhcgbfaaDoor
/-- The row, under a short name, for the claim. -/
theorem codecEncodes_holds : Rows.CodecEncodesCardSaid := codecEncodes.card
end Go.Proofs.YtcofbakhhcgbfaaDoor
