/- The law OptsPrints: for every input that its row speaks of it returns true, and each argument reads as it did. Conditions: the row's own (the listed variables read as the program's text lays them, which the card ties). (Written by xprint.py, a program of this session.) -/
import Derived.Test.YtceflmoiiiclcaaDoorRows
import Derived.Test.YtceflmoiiiclcaaDoorCards
import Derived.Test.YtceflmoiiiclcaaDoorTie
import Derived.Lay
import Derived.ProofKit
import Derived.SevenTiedAt
import Derived.Test.YtceflmoiiiclcaaDoorPP3
import Derived.Test.YtceflmoiiiclcaaDoorPureOptsPrints
import Derived.WalkKit
import Derived.OpenShut
import Derived.ShutString
import Derived.ChangeOld
import Derived.Below
import Derived.SizedLaws
import Derived.Deep.Strs
import Derived.Deep.Fields
namespace Go.Proofs.YtceflmoiiiclcaaDoor.optsPrints
open Go.ChangeShapes Go.WideShapes Go.ChangeAt Go.RowKit
open Go.ChangeMaps (open_string shut_string)
open Go.Proofs.YtceflmoiiiclcaaDoorW.PrintWords Go.Deep
set_option linter.unusedVariables false
theorem array8 {α : Type} {cs : Array α} (h : cs.size = 8) : ∃ c0 c1 c2 c3 c4 c5 c6 c7, cs = #[c0, c1, c2, c3, c4, c5, c6, c7] := by
  obtain ⟨l⟩ := cs
  match l, h with
  | [c0, c1, c2, c3, c4, c5, c6, c7], _ => exact ⟨c0, c1, c2, c3, c4, c5, c6, c7, rfl⟩
/-- A field of one cell. -/
theorem open_field {H : Type} {enc : TypeId × Value → H} {P : Program} {w : World} {base : Nat} {spare : Nat → Bool} {held : Bool} {t : TypeId} {fs : Array Field} {v : Array Value} {d : DataW H} {p : List MemPlace} (hs : P.underlying t = some (.struct fs)) (hone : oneCellFields P fs = true)
    (h : DataW.Trod enc P w base spare held t (.agg v) d p) (i : Nat) (f : Field) (c : Value) (hi : fs[i]? = some f) (hc : v[i]? = some c) : ∃ n y, DataW.trod enc P w base spare held n f.type [c] = some y := by
  obtain ⟨fuel, hf⟩ := h
  obtain ⟨ys, n, _, _, hl, hlen, hfd⟩ := DataW.trod_struct hs hf
  obtain ⟨o, k⟩ := hone_of hone i f hi
  have h1 := hfd i f hi
  have hlt : i < fs.size := (Array.getElem?_eq_some_iff.1 hi).1
  have hy : ys[i]? = some (ys[i]'(by omega)) := List.getElem?_eq_getElem (by omega)
  have hv : i < v.toList.length := by simpa using (Array.getElem?_eq_some_iff.1 hc).1
  have hd : (v.toList.drop i).take 1 = [c] := by
    rw [List.drop_eq_getElem_cons hv, List.take_succ_cons, List.take_zero]
    have := (Array.getElem?_eq_some_iff.1 hc).2
    simpa using this
  rw [o, k, hy] at h1
  exact ⟨n, _, by rw [← hd]; simpa [Value.cells] using h1⟩
theorem laidOut : laidOutB Tryd.prog = true := by kernel_rfl
theorem own : ownKnob Tryd.prog.godebug = none := by kernel_rfl
set_option maxRecDepth 100000 in
theorem lifted (os : Os) (started : os.Started) (H : Type) (enc : TypeId × Value → H) :
    ReturnsInHanded {} Tryd.checked os 3 .any (fun w args => (Rows.optsPrintsSpec.pre enc Tryd.prog Tryd.f3 [] false w args ∧ laidMetH Tryd.prog Rows.optsPrintsRow.laid w) ∧ sizedMet enc Tryd.prog Tryd.f3 (OpenSpec.ofChange Rows.optsPrintsSpec) false w args)
      (Rows.optsPrintsSpec.post enc Tryd.prog Tryd.f3 false true false false) := by
  refine returnsInHanded_of_change_and (C := Tryd.checked) (X := fun w _ => laidMetH Tryd.prog Rows.optsPrintsRow.laid w) (fun _ _ _ hh h => h.of_heap hh) own started (by kernel_rfl) Tryd.func3
    (ChangeSpec.witness_shaped (enc := enc) (C := Tryd.checked) (os := os) (X := fun w _ => laidMetH Tryd.prog Rows.optsPrintsRow.laid w) false (World.laidAll Tryd.prog os Rows.optsPrintsRow.laid) #[.agg #[.bool false, .bool false, .bool false, .bool false, .string ByteArray.empty, .int .u8 0, .string ByteArray.empty, .slice none 0 0]] 8 (World.laidAll_os _ _ _)
      (World.shaped_of_ZipB (by kernel_rfl) (by kernel_rfl)) (by kernel_rfl) (by kernel_rfl) (by kernel_rfl)
      (by rw [MakeChecks.laidMetH_plain _ _ _ (by kernel_rfl)]; exact laidMet_laidAll _ (by kernel_rfl) (by kernel_rfl))) ?_
  intro W base args ds gs before hval0 hW hcnd hsz0 hL _
  have hsz : (DataW.weightsEach Tryd.prog (Tryd.f3.params.toList ++ Rows.optsPrintsSpec.plain.varTypes Tryd.prog) (ds ++ gs)).all (· ≤ reachBytes) = true := hsz0
  have hval : ∀ (j : Nat) t v, Tryd.f3.params[j]? = some t → args[j]? = some v → Value.okWide Tryd.prog W .any base t v := hval0
  have hW' := hW
  obtain ⟨p, q, hA0, hV, rfl, hfz, hnd⟩ := hW
  have hA : DataW.TrodAll enc Tryd.prog W 0 (fun _ => true) true Tryd.f3.params.toList args.toList ds p := hA0
  rw [Tryd.params3] at hA hval hsz
  obtain ⟨v0, vs0, d0, ds0, p0, q0, hargs, rfl, rfl, h0, r0⟩ := trodAll_cons hA
  obtain ⟨rfl, rfl, rfl⟩ := trodAll_nil r0
  obtain rfl : args = #[v0] := by cases args; simp_all
  obtain ⟨rfl, rfl⟩ := trodVars_none hV
  obtain ⟨cs8, rfl, hsz8⟩ := okWide_struct Tryd.underlying24 (hval 0 24 v0 rfl rfl)
  have k0 := h0
  have lt0 : ∀ x ∈ p0, x.block < W.heap.size := by obtain ⟨m, hm⟩ := k0; exact DataW.trod_lt m _ _ _ hm
  obtain ⟨c0, c1, c2, c3, c4, c5, c6, c7, rfl⟩ := array8 (hsz8.trans (by kernel_rfl : Tryd.prog.cellsOf 24 = 8))
  have F := fun (i : Nat) (f : Field) (c : Value) => open_field Tryd.underlying24 (by kernel_rfl) h0 i f c
  obtain ⟨n0, y0, t0⟩ := F 0 _ c0 rfl rfl
  obtain ⟨n1, y1, t1⟩ := F 1 _ c1 rfl rfl
  obtain ⟨n2, y2, t2⟩ := F 2 _ c2 rfl rfl
  obtain ⟨n3, y3, t3⟩ := F 3 _ c3 rfl rfl
  obtain ⟨n4, y4, t4⟩ := F 4 _ c4 rfl rfl
  obtain ⟨n5, y5, t5⟩ := F 5 _ c5 rfl rfl
  obtain ⟨n6, y6, t6⟩ := F 6 _ c6 rfl rfl
  obtain ⟨n7, y7, t7⟩ := F 7 _ c7 rfl rfl
  obtain ⟨b0, hx0, _⟩ := DataW.trod_bool Tryd.underlying4 t0
  obtain ⟨b1, hx1, _⟩ := DataW.trod_bool Tryd.underlying4 t1
  obtain ⟨b2, hx2, _⟩ := DataW.trod_bool Tryd.underlying4 t2
  obtain ⟨b3, hx3, _⟩ := DataW.trod_bool Tryd.underlying4 t3
  obtain ⟨s4, hx4, _⟩ := DataW.trod_string Tryd.underlying9 t4
  obtain ⟨e5, hx5, _, _⟩ := DataW.trod_int Tryd.underlying5 t5
  obtain ⟨s6, hx6, _⟩ := DataW.trod_string Tryd.underlying9 t6
  obtain rfl := (List.cons.inj hx0).1
  obtain rfl := (List.cons.inj hx1).1
  obtain rfl := (List.cons.inj hx2).1
  obtain rfl := (List.cons.inj hx3).1
  obtain rfl := (List.cons.inj hx4).1
  obtain rfl := (List.cons.inj hx5).1
  obtain rfl := (List.cons.inj hx6).1
  obtain ⟨a0, cap0, xs, hx7, hC, hcap⟩ : ∃ (a0 : Option Addr) (cap0 : Nat) (xs : List ByteArray), c7 = .slice a0 xs.length cap0 ∧ Kd.C Kd.string W a0 xs.length xs ∧ xs.length ≤ cap0 := by
    rcases open_strs Tryd.underlying22 Tryd.underlying9 (by kernel_rfl) t7 with ⟨hcs, _⟩ | ⟨x, l, c, m, Sx, hcs, _, hl, hm, hmm, _, hcell⟩
    · exact ⟨none, 0, [], (List.cons.inj hcs).1, Kd.C_nil _ _, Nat.le_refl _⟩
    · have hm2 : l ≤ m := by rw [hmm]; split <;> omega
      refine ⟨some x, c, (List.range l).map Sx, ?_, ?_, by simpa using hl⟩
      · rw [(List.cons.inj hcs).1, List.length_map, List.length_range]
      refine Kd.C_of_reads (d := ByteArray.empty) (h1 := fun _ => rfl) ⟨rfl, ?_, fun _ => ⟨x, rfl, fun j hj => ?_⟩⟩
      · rw [List.length_map, List.length_range]
        unfold maxLen at hm
        omega
      · rw [List.length_map, List.length_range] at hj
        have h3 := (hcell j (by omega)).1
        rw [h3]
        congr 2
        rw [List.getD_eq_getElem?_getD]
        simp [hj]
  subst hx7
  clear hA0 hval0 hsz0 hsz
  obtain ⟨k, hP⟩ := Pure.OptsPrints b0 b1 b2 b3 s4 e5 s6 xs
  refine (PP.redactorlaw19_OptsPrints.calls k b0 b1 b2 b3 s4 e5 s6 a0 cap0 xs true W hC hcap ⟨rfl⟩ hP).mono fun e W' ⟨he, bel⟩ => ?_
  subst he
  exact ⟨_, rfl, _, _, _, [], _, [], hW', trodAll_mk1 (shut_bool Tryd.underlying4 _), (trodAll_cons_mk (Below.trod laidOut (by kernel_rfl) (of_decide_eq_true (by kernel_rfl)) k0 bel lt0) trodAll_mk0), rfl, bel.frame _, fun h => by cases h⟩
theorem over : Rows.optsPrintsRow.holds Tryd.pinned (OpenSpec.ofChange Rows.optsPrintsSpec) :=
  OpenClaim.holds_of_wide 3 Tryd.f3 rfl rfl rfl rfl rfl rfl rfl ⟨rfl, rfl, rfl, rfl, rfl⟩ rfl rfl rfl rfl rfl (by kernel_rfl) Tryd.func3 (by kernel_rfl)
    (of_decide_eq_true (by kernel_rfl)) (by unfold Func.isWrapper; first | (rw [if_pos (by decide +kernel)]; kernel_rfl) | (rw [if_neg (by decide +kernel)]; exact ⟨rfl, rfl⟩))
    (fun os started H enc _ => lifted os started H enc)
theorem proved : Rows.OptsPrintsSaid := over
theorem card : Rows.OptsPrintsCardSaid :=
  Claim7.holds_tied_plain_at .later [] [.data, .pinned] true (true, "8a3b28cc00ac055319e32af5bbeded34ae94ab5e570333e57969828b8a42f32c") false proved (fun _ h => by cases h) (by kernel_rfl) (fun _ h => by cases h) optsPrints_row_tie rfl ⟨rfl, rfl⟩ (by kernel_rfl) rfl
    (fun f fn hf hfn => by
      obtain rfl : f = 3 := Option.some.inj ((show Tryd.prog.funcNamed "redactor/redactorlaw19.OptsPrints" = some 3 by kernel_rfl).symm.trans hf) |>.symm
      obtain rfl : fn = Tryd.f3 := (Option.some.inj (Tryd.func3.symm.trans hfn)).symm
      exact ⟨by kernel_rfl, fun j t ht => by
        rw [Tryd.params3] at ht
        have hm : t ∈ [24] := by simpa using Array.mem_of_getElem? ht
        have hall : ([24].all fun u => !Tryd.prog.wantsStandIn u) = true := by kernel_rfl
        exact (show Tryd.prog.wantsStandIn t = false by simpa using List.all_eq_true.1 hall t hm)⟩)
    (by kernel_rfl)
#print axioms card
end Go.Proofs.YtceflmoiiiclcaaDoor.optsPrints
namespace Go.Proofs.YtceflmoiiiclcaaDoor
/-- The row, under a short name, for the claim. -/
theorem optsPrints_holds : Rows.OptsPrintsCardSaid := optsPrints.card
end Go.Proofs.YtceflmoiiiclcaaDoor
