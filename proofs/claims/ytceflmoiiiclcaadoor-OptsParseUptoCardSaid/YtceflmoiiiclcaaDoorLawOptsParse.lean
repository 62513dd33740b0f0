/- The law OptsParse, where what it reads is of bulk at most 1048576: it returns true, and each argument reads as it did. Conditions: the row's own (the listed variables read as the program's text lays them, which the card ties). -/
import Derived.Test.YtceflmoiiiclcaaDoorRows
import Derived.Test.YtceflmoiiiclcaaDoorCards
import Derived.Test.YtceflmoiiiclcaaDoorTie
import Derived.Lay
import Derived.ProofKit
import Derived.SevenTiedAt
import Derived.Test.YtceflmoiiiclcaaDoorPQ1
import Derived.Test.YtceflmoiiiclcaaDoorPureOptsParse
import Derived.WalkKit
import Derived.OpenShut
import Derived.ShutString
import Derived.ChangeOld
import Derived.Below
import Derived.SizedLaws
import Derived.Deep.Strs
import Derived.Deep.Fields
import Derived.Deep.DeepHandedRow
import Derived.Lib.LaidTab
namespace Go.Proofs.YtceflmoiiiclcaaDoor.optsParse
open Go.ChangeShapes Go.WideShapes Go.ChangeAt Go.RowKit
open Go.ChangeMaps (open_string shut_string)
open Go.Proofs.YtceflmoiiiclcaaDoorW.PrintWords Go.Deep
set_option linter.unusedVariables false
theorem laidOut : laidOutB Tryd.prog = true := by kernel_rfl
theorem own : ownKnob Tryd.prog.godebug = none := by kernel_rfl
/-! What the bound gives. -/
theorem one_le {H : Type} (d : DataW H) : 1 ≤ Rows.uptoBulk d := by
  cases d with
  | lit l => cases l <;> simp [Rows.uptoBulk]
  | nil => simp [Rows.uptoBulk]
  | ptr d => simp [Rows.uptoBulk]
  | slice elems spare => simp [Rows.uptoBulk]
  | agg parts => simp [Rows.uptoBulk]
  | iface t d => simp [Rows.uptoBulk]
  | map entries => simp [Rows.uptoBulk]
  | held h => simp [Rows.uptoBulk]
theorem part_le {H : Type} {d : DataW H} {l : List (DataW H)} (h : d ∈ l) : Rows.uptoBulk d ≤ Rows.uptoBulkAll l := by
  induction l with
  | nil => cases h
  | cons x r ih =>
    simp only [Rows.uptoBulkAll]
    cases List.mem_cons.1 h with
    | inl e => subst e; omega
    | inr e => have := ih e; omega
theorem length_le {H : Type} (l : List (DataW H)) : l.length ≤ Rows.uptoBulkAll l := by
  induction l with
  | nil => simp [Rows.uptoBulkAll]
  | cons x r ih => have := one_le x; simp only [Rows.uptoBulkAll, List.length_cons]; omega
theorem slice_elems {H : Type} (elems spare : List (DataW H)) : Rows.uptoBulkAll elems + 1 ≤ Rows.uptoBulk (.slice elems spare) := by
  simp only [Rows.uptoBulk]
  omega
section
variable {H : Type} {enc : TypeId × Value → H} {W : World} {base : Nat} {spare : Nat → Bool} {held : Bool}
/-- Bytes in a cell. -/
theorem bytes_open {fuel : Nat} {c : Value} {y : DataW H × List MemPlace} (h : DataW.trod enc Tryd.prog W base spare held fuel 29 [c] = some y) :
    ∃ (A : Option Addr) (cap : Nat) (zs : List Int), c = .slice A zs.length cap ∧ zs.length ≤ cap ∧ Kd.C (Kd.int .u8) W A zs.length zs ∧ (∀ x ∈ zs, (Lit.int .u8 x).wf = true) ∧ zs.length ≤ Rows.uptoBulk y.1 := by
  rcases open_slice1 Tryd.underlying29 (by kernel_rfl) h with ⟨hcs, _⟩ | ⟨a, len, cap, m, n, V, D, Pl, hcs, _, hl, hm, hmm, hy, hx⟩
  · exact ⟨none, 0, [], (List.cons.inj hcs).1, Nat.le_refl _, Kd.C_nil _ _, fun _ hz => (by cases hz), Nat.zero_le _⟩
  · have hlm : len ≤ m := by rw [hmm]; split <;> omega
    obtain ⟨F, hF⟩ := choose_lt (n := len) (p := fun i (z : Int) => V i = .int .u8 z ∧ (Lit.int .u8 z).wf = true) (fun i hi => by
      obtain ⟨z, h1, _, h3⟩ := DataW.trod_int Tryd.underlying5 (hx i (by omega)).2
      exact ⟨z, (List.cons.inj h1).1, h3⟩)
    refine ⟨some a, cap, (List.range len).map F, ?_, by simpa using hl, ?_, ?_, ?_⟩
    · rw [List.length_map, List.length_range]; exact (List.cons.inj hcs).1
    · refine Kd.C_of_reads (d := (0 : Int)) (h1 := fun _ => rfl) ⟨rfl, ?_, fun _ => ⟨a, rfl, fun j hj => ?_⟩⟩
      · rw [List.length_map, List.length_range]
        unfold maxLen at hm
        omega
      · rw [List.length_map, List.length_range] at hj
        rw [(hx j (by omega)).1, (hF j hj).1]
        congr 2
        rw [List.getD_eq_getElem?_getD]
        simp [hj]
    · intro x hxm
      obtain ⟨i, hi, rfl⟩ := List.mem_map.1 hxm
      exact (hF i (List.mem_range.1 hi)).2
    · rw [hy, List.length_map, List.length_range]
      have h1 := length_le ((List.range len).map D)
      have h2 := slice_elems ((List.range len).map D) ((List.range (m - len)).map fun j => D (len + j))
      rw [List.length_map, List.length_range] at h1
      show len ≤ Rows.uptoBulk (DataW.slice _ _)
      omega
/-- Texts. -/
theorem strs_open {fuel : Nat} {c : Value} {y : DataW H × List MemPlace} (h : DataW.trod enc Tryd.prog W base spare held fuel 22 [c] = some y) :
    ∃ (A : Option Addr) (cap : Nat) (xs : List ByteArray), c = .slice A xs.length cap ∧ xs.length ≤ cap ∧ Kd.C Kd.string W A xs.length xs ∧ xs.length ≤ Rows.uptoBulk y.1 ∧ ∀ z ∈ xs, z.size ≤ Rows.uptoBulk y.1 := by
  rcases open_strs Tryd.underlying22 Tryd.underlying9 (by kernel_rfl) h with ⟨hcs, _⟩ | ⟨a, len, cap, m, Sx, hcs, _, hl, hm, hmm, hy, hcell⟩
  · exact ⟨none, 0, [], (List.cons.inj hcs).1, Nat.le_refl _, Kd.C_nil _ _, Nat.zero_le _, fun _ hz => (by cases hz)⟩
  · have hlm : len ≤ m := by rw [hmm]; split <;> omega
    have h2 := slice_elems ((List.range len).map fun i => (DataW.lit (.string (Sx i).data.toList) : DataW H)) ((List.range (m - len)).map fun j => DataW.lit (.string (Sx (len + j)).data.toList))
    refine ⟨some a, cap, (List.range len).map Sx, ?_, by simpa using hl, ?_, ?_, ?_⟩
    · rw [List.length_map, List.length_range]; exact (List.cons.inj hcs).1
    · refine Kd.C_of_reads (d := ByteArray.empty) (h1 := fun _ => rfl) ⟨rfl, ?_, fun _ => ⟨a, rfl, fun j hj => ?_⟩⟩
      · rw [List.length_map, List.length_range]
        unfold maxLen at hm
        omega
      · rw [List.length_map, List.length_range] at hj
        rw [(hcell j (by omega)).1]
        congr 2
        rw [List.getD_eq_getElem?_getD]
        simp [hj]
    · rw [hy, List.length_map, List.length_range]
      have h1 := length_le ((List.range len).map fun i => (DataW.lit (.string (Sx i).data.toList) : DataW H))
      rw [List.length_map, List.length_range] at h1
      show len ≤ Rows.uptoBulk (DataW.slice _ _)
      omega
    · intro z hz
      obtain ⟨i, hi, rfl⟩ := List.mem_map.1 hz
      have h3 := part_le (H := H) (List.mem_map.2 ⟨i, hi, rfl⟩ : (DataW.lit (.string (Sx i).data.toList) : DataW H) ∈ (List.range len).map fun i => DataW.lit (.string (Sx i).data.toList))
      have h4 : Rows.uptoBulk (DataW.lit (H := H) (.string (Sx i).data.toList)) = (Sx i).data.toList.length + 1 := by simp [Rows.uptoBulk]
      have h5 : (Sx i).data.toList.length = (Sx i).size := by simp
      rw [hy]
      show (Sx i).size ≤ Rows.uptoBulk (DataW.slice _ _)
      omega
set_option maxRecDepth 100000 in
theorem file_open {fuel : Nat} {cs : List Value} {y : DataW H × List MemPlace} (hl : cs.length = 2) (h : DataW.trod enc Tryd.prog W base spare held fuel 54 cs = some y) :
    ∃ x : PX.S54, PX.k54.K W x cs ∧ x.f1.length ≤ Rows.uptoBulk y.1 := by
  match cs, hl with
  | [c0, c1], _ =>
    obtain ⟨ys, n, _, hy, _, hlen, hfd⟩ := DataW.trod_struct Tryd.underlying54 h
    have hlen2 : ys.length = 2 := hlen
    obtain ⟨y0, y1, rfl⟩ : ∃ y0 y1, ys = [y0, y1] := by
      match ys, hlen2 with
      | [y0, y1], _ => exact ⟨y0, y1, rfl⟩
    have f0 : DataW.trod enc Tryd.prog W base spare held n 9 [c0] = some y0 := hfd 0 _ rfl
    have f1 : DataW.trod enc Tryd.prog W base spare held n 29 [c1] = some y1 := hfd 1 _ rfl
    obtain ⟨s, hs, _, _⟩ := DataW.trod_string Tryd.underlying9 f0
    obtain rfl := (List.cons.inj hs).1
    obtain ⟨A, cap, zs, rfl, hcap, hC, _, hb⟩ := bytes_open f1
    refine ⟨⟨s, zs⟩, PX.k54_mk W ⟨s, zs⟩ hcap hC, ?_⟩
    rw [hy]
    show zs.length ≤ Rows.uptoBulk (DataW.agg [y0.1, y1.1])
    have h2 : Rows.uptoBulk (DataW.agg [y0.1, y1.1]) = Rows.uptoBulk y0.1 + (Rows.uptoBulk y1.1 + 0) + 1 := by simp [Rows.uptoBulk, Rows.uptoBulkAll]
    omega
/-- Files. -/
theorem files_open {fuel : Nat} {c : Value} {y : DataW H × List MemPlace} (h : DataW.trod enc Tryd.prog W base spare held fuel 35 [c] = some y) :
    ∃ (A : Option Addr) (cap : Nat) (l : List PX.S54), c = .slice A l.length cap ∧ l.length ≤ cap ∧ Kd.C PX.k54 W A l.length l ∧ l.length ≤ Rows.uptoBulk y.1 ∧ ∀ x ∈ l, x.f1.length ≤ Rows.uptoBulk y.1 := by
  rcases open_slice Tryd.underlying35 h with ⟨hcs, _⟩ | ⟨a, len, cap, m, n, D, Pl, hcs, _, hl, hm, hmm, hy, hx⟩
  · exact ⟨none, 0, [], (List.cons.inj hcs).1, Nat.le_refl _, Kd.C_nil _ _, Nat.zero_le _, fun _ hz => (by cases hz)⟩
  · have hlm : len ≤ m := by rw [hmm]; split <;> omega
    have hc2 : Tryd.prog.cellsOf 54 = 2 := by kernel_rfl
    haveI : Inhabited (PX.S54 × List Value) := ⟨(PX.z54, [])⟩
    obtain ⟨F, hF⟩ := choose_lt (n := len) (p := fun i (q : PX.S54 × List Value) => q.2.length = 2 ∧ PX.k54.K W q.1 q.2 ∧ (∀ j u, q.2[j]? = some u → W.cell? (a.add (i * 2 + j)) = some u) ∧ q.1.f1.length ≤ Rows.uptoBulk (D i)) (fun i hi => by
      obtain ⟨cs', h1, h2⟩ := hx i (by omega)
      rw [hc2] at h1
      obtain ⟨hb1, hb2, hb3⟩ := World.cells?_some h1
      obtain ⟨x, hk, hb⟩ := file_open hb2 h2
      refine ⟨(x, cs'), hb2, hk, fun j u hu => ?_, hb⟩
      have hj : j < 2 := by
        have h9 : j < cs'.length := (List.getElem?_eq_some_iff.1 (show cs'[j]? = some u from hu)).1
        omega
      rw [← Deep.add_add, hb3 j hj]
      exact hu)
    have h2 := slice_elems ((List.range len).map D) ((List.range (m - len)).map fun j => D (len + j))
    refine ⟨some a, cap, (List.range len).map fun i => (F i).1, ?_, by simpa using hl, ?_, ?_, ?_⟩
    · rw [List.length_map, List.length_range]; exact (List.cons.inj hcs).1
    · refine ⟨rfl, ?_, fun _ => ⟨a, rfl, fun j p hj => ?_⟩⟩
      · rw [List.length_map, List.length_range]
        unfold maxLen at hm
        omega
      · obtain ⟨hjl, hjp⟩ := List.getElem?_eq_some_iff.1 hj
        rw [List.length_map, List.length_range] at hjl
        have hp : p = (F j).1 := by rw [← hjp]; simp
        rw [hp]
        exact ⟨(F j).2, (hF j hjl).1, (hF j hjl).2.1, (hF j hjl).2.2.1⟩
    · rw [hy, List.length_map, List.length_range]
      have h1 := length_le ((List.range len).map D)
      rw [List.length_map, List.length_range] at h1
      show len ≤ Rows.uptoBulk (DataW.slice _ _)
      omega
    · intro x hxm
      obtain ⟨i, hi, rfl⟩ := List.mem_map.1 hxm
      have h3 := part_le (List.mem_map.2 ⟨i, hi, rfl⟩ : D i ∈ (List.range len).map D)
      have h4 := (hF i (List.mem_range.1 hi)).2.2.2
      rw [hy]
      show _ ≤ Rows.uptoBulk (DataW.slice _ _)
      omega
end
set_option maxRecDepth 100000 in
theorem contract (H : Type) (enc : TypeId × Value → H) (W : World) (base : Nat) (args : Array Value) (ds gs : List (DataW H)) (before : List MemPlace)
    (hval0 : ∀ (j : Nat) t v, Tryd.f7.params[j]? = some t → args[j]? = some v → Value.okWide Tryd.prog W .any base t v)
    (hW : DataW.Whole enc Tryd.prog Tryd.f7.params.toList Rows.optsParseSpec.vars false W args.toList ds gs before) (hcond : Rows.uptoSmall H (ds ++ gs) = true) :
    Calls Tryd.prog 7 args W fun e W' => ∃ v, e = .returned v ∧ Rows.optsParseSpec.post enc Tryd.prog Tryd.f7 false true false false W args v W' := by
  have hval : ∀ (j : Nat) t v, Tryd.f7.params[j]? = some t → args[j]? = some v → Value.okWide Tryd.prog W .any base t v := hval0
  have hW' := hW
  obtain ⟨p, q, hA0, hV, rfl, hfz, hnd⟩ := hW
  have hA : DataW.TrodAll enc Tryd.prog W 0 (fun _ => true) true Tryd.f7.params.toList args.toList ds p := hA0
  rw [Tryd.params7] at hA hval
  obtain ⟨v0, vs0, d0, ds0, p0, q0, hargs, rfl, rfl, h0, r0⟩ := trodAll_cons hA
  obtain ⟨v1, vs1, d1, ds1, p1, q1, rfl, rfl, rfl, h1, r1⟩ := trodAll_cons r0
  obtain ⟨v2, vs2, d2, ds2, p2, q2, rfl, rfl, rfl, h2, r2⟩ := trodAll_cons r1
  obtain ⟨rfl, rfl, rfl⟩ := trodAll_nil r2
  obtain rfl : args = #[v0, v1, v2] := by cases args; simp_all
  obtain ⟨rfl, rfl⟩ := trodVars_none hV
  have hk : Rows.uptoBulkAll ([d0, d1, d2] ++ ([] : List (DataW H))) ≤ 1048576 := of_decide_eq_true hcond
  have b0 : Rows.uptoBulk d0 ≤ 1048576 := Nat.le_trans (part_le (by simp)) hk
  have b1 : Rows.uptoBulk d1 ≤ 1048576 := Nat.le_trans (part_le (by simp)) hk
  have b2 : Rows.uptoBulk d2 ≤ 1048576 := Nat.le_trans (part_le (by simp)) hk
  obtain ⟨a0, len0, cap0, rfl⟩ := okWide_slice Tryd.underlying22 (hval 0 22 v0 rfl rfl)
  obtain ⟨a1, len1, cap1, rfl⟩ := okWide_slice Tryd.underlying35 (hval 1 35 v1 rfl rfl)
  obtain ⟨a2, len2, cap2, rfl⟩ := okWide_slice Tryd.underlying29 (hval 2 29 v2 rfl rfl)
  have k0 := h0
  have lt0 : ∀ x ∈ p0, x.block < W.heap.size := by obtain ⟨m, hm⟩ := k0; exact DataW.trod_lt m _ _ _ hm
  have k1 := h1
  have lt1 : ∀ x ∈ p1, x.block < W.heap.size := by obtain ⟨m, hm⟩ := k1; exact DataW.trod_lt m _ _ _ hm
  have k2 := h2
  have lt2 : ∀ x ∈ p2, x.block < W.heap.size := by obtain ⟨m, hm⟩ := k2; exact DataW.trod_lt m _ _ _ hm
  obtain ⟨f0, hf0⟩ := h0
  obtain ⟨f1, hf1⟩ := h1
  obtain ⟨f2, hf2⟩ := h2
  obtain ⟨A0, c0, xs, e0, hc0, hC0, hn0, hs0⟩ := strs_open (show DataW.trod enc Tryd.prog W 0 (fun _ => true) true f0 22 [.slice a0 len0 cap0] = some (d0, p0) by simpa [Value.cells] using hf0)
  obtain ⟨A1, c1, l, e1, hc1, hC1, hn1, hs1⟩ := files_open (show DataW.trod enc Tryd.prog W 0 (fun _ => true) true f1 35 [.slice a1 len1 cap1] = some (d1, p1) by simpa [Value.cells] using hf1)
  obtain ⟨A2, c2, cs, e2, hc2, hC2, hw2, _⟩ := bytes_open (show DataW.trod enc Tryd.prog W 0 (fun _ => true) true f2 29 [.slice a2 len2 cap2] = some (d2, p2) by simpa [Value.cells] using hf2)
  cases e0
  cases e1
  cases e2
  obtain ⟨k, hP⟩ := Pure.OptsParse xs l cs (fun z hz => Nat.le_trans (hs0 z hz) b0) (Nat.le_trans hn0 b0) (Nat.le_trans hn1 b1) (fun x hx => Nat.le_trans (hs1 x hx) b1) hw2
  clear hA0 hval0 hf0 hf1 hf2
  refine (PQ.redactorlaw19_OptsParse.calls k _ _ xs _ _ l _ _ cs true W hC0 hc0 hC1 hc1 hC2 hc2 ⟨rfl⟩ hP).mono fun e W' ⟨he, bel⟩ => ?_
  subst he
  exact ⟨_, rfl, _, _, _, [], _, [], hW', trodAll_mk1 (shut_bool Tryd.underlying4 _), (trodAll_cons_mk (Below.trod laidOut (by kernel_rfl) (of_decide_eq_true (by kernel_rfl)) k0 bel lt0) (trodAll_cons_mk (Below.trod laidOut (by kernel_rfl) (of_decide_eq_true (by kernel_rfl)) k1 bel lt1) (trodAll_cons_mk (Below.trod laidOut (by kernel_rfl) (of_decide_eq_true (by kernel_rfl)) k2 bel lt2) trodAll_mk0))), rfl, bel.frame _, fun h => by cases h⟩
theorem reads (os : Os) {H : Type} (enc : TypeId × Value → H) : ∃ places, DataW.whole enc Tryd.prog ((World.laidAll Tryd.prog os Rows.optsParseUptoRow.laid).forCall (fun _ _ => 0) ⟨#[], #[.slice none 0 0, .slice none 0 0, .slice none 0 0], []⟩).memory Tryd.f7.params.toList Rows.optsParseSpec.vars false #[Value.slice none 0 0, Value.slice none 0 0, Value.slice none 0 0].toList 8 = some ([.nil, .nil, .nil], [], places) :=
  ⟨[], by kernel_rfl⟩
theorem okB (os : Os) : Input.okWideB Tryd.prog ((World.laidAll Tryd.prog os Rows.optsParseUptoRow.laid).forCall (fun _ _ => 0) ⟨#[], #[.slice none 0 0, .slice none 0 0, .slice none 0 0], []⟩) 7 ⟨#[], #[.slice none 0 0, .slice none 0 0, .slice none 0 0], []⟩ = true := by kernel_rfl
set_option maxRecDepth 100000 in
theorem liftedUpto (os : Os) (started : os.Started) (H : Type) (enc : TypeId × Value → H) (F : Stop.Interp) :
    ReturnsInHanded {} Tryd.checked os 7 .any ((Rows.OpenSpec.upto Rows.optsParseSpec).preRow enc Tryd.prog Tryd.f7 Rows.optsParseUptoRow.domain false Rows.optsParseUptoRow.laid) (((Rows.OpenSpec.upto Rows.optsParseSpec).at F).post enc Tryd.prog Tryd.f7 false true false false) := by
  obtain ⟨places, hx⟩ := reads os enc
  refine returnsInHanded_of_row (C := Tryd.checked) (s := Rows.OpenSpec.upto Rows.optsParseSpec) own started (by kernel_rfl) Tryd.func7
    ⟨World.laidAll Tryd.prog os Rows.optsParseUptoRow.laid, fun _ _ => 0, ⟨#[], #[.slice none 0 0, .slice none 0 0, .slice none 0 0], []⟩, World.laidAll_os _ _ _, World.shaped_of_ZipB (by kernel_rfl) (by kernel_rfl),
      (Input.okWide_of_okWideB (base := 0) (okB os)).1, (Input.okWide_of_okWideB (okB os)).2,
      OpenSpec.preRow_of_cond 8 hx (by kernel_rfl) (fun k hk => by cases hk; kernel_rfl) (by kernel_rfl) (by rw [MakeChecks.laidMetH_plain _ _ _ (by kernel_rfl)]; exact laidMet_laidAll _ (by kernel_rfl) (by kernel_rfl)), by
        simp only [Assume.holds]
        exact ⟨by simp, by simp, fun _ => Modest.zero, by simp, by simp⟩⟩ ?_
  intro W base args ds gs before hval hW _ hcond _ hL _ _
  exact contract H enc W base args ds gs before hval hW (hcond _ rfl)
theorem saidUpto : Rows.OptsParseUptoSaid :=
  OpenClaim.holds_of_cond 7 Tryd.f7 rfl rfl rfl rfl rfl rfl rfl ⟨rfl, rfl, rfl, rfl, rfl⟩ rfl rfl rfl rfl rfl (by kernel_rfl) Tryd.func7 (by kernel_rfl)
    (of_decide_eq_true (by kernel_rfl)) (by unfold Func.isWrapper; first | (rw [if_pos (by decide +kernel)]; kernel_rfl) | (rw [if_neg (by decide +kernel)]; exact ⟨rfl, rfl⟩))
    (fun os started H enc _ F => by rw [OpenClaim.pre_eq_preRow]; exact liftedUpto os started H enc F)
theorem cardUpto : Rows.OptsParseUptoCardSaid :=
  Claim7.holds_tied_plain_at .later [] [.data, .pinned] true (true, "8a3b28cc00ac055319e32af5bbeded34ae94ab5e570333e57969828b8a42f32c") false saidUpto (fun _ h => by cases h) (by kernel_rfl) (fun _ h => by cases h) optsParseUpto_row_tie rfl ⟨rfl, rfl⟩ (by kernel_rfl) rfl
    (fun f fn hf hfn => by
      obtain rfl : f = 7 := Option.some.inj ((show Tryd.prog.funcNamed "redactor/redactorlaw19.OptsParse" = some 7 by kernel_rfl).symm.trans hf) |>.symm
      obtain rfl : fn = Tryd.f7 := (Option.some.inj (Tryd.func7.symm.trans hfn)).symm
      exact ⟨by kernel_rfl, fun j t ht => by
        rw [Tryd.params7] at ht
        have hm : t ∈ [22, 35, 29] := by simpa using Array.mem_of_getElem? ht
        have hall : ([22, 35, 29].all fun u => !Tryd.prog.wantsStandIn u) = true := by kernel_rfl
        exact (show Tryd.prog.wantsStandIn t = false by simpa using List.all_eq_true.1 hall t hm)⟩)
    (by kernel_rfl)
#print axioms cardUpto
end Go.Proofs.YtceflmoiiiclcaaDoor.optsParse
namespace Go.Proofs.YtceflmoiiiclcaaDoor
/-- The row, under a short name, for the claim. -/
theorem optsParseUpto_holds : Rows.OptsParseUptoCardSaid := optsParse.cardUpto
end Go.Proofs.YtceflmoiiiclcaaDoor
