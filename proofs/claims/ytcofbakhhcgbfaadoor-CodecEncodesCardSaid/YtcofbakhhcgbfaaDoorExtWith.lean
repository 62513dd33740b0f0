/- slices.Clone of cells, and redactor/codec.With: the document with a copy of the cells given. Conditions: the cells' number is below 2^45. -/
import Derived.Test.YtcofbakhhcgbfaaDoorWLast
import Derived.Test.YtcofbakhhcgbfaaDoorWMore
import Derived.Test.YtcofbakhhcgbfaaDoorExtDoc
import Derived.Test.YtcofbakhhcgbfaaDoorProg
import Derived.WalkKit
import Derived.Outline
import Derived.OwnWalk
import Derived.KernelRfl
import Derived.Lib.SliceRun
namespace Go.Proofs.YtcofbakhhcgbfaaDoor.PX
open Go.RowKit Go.Proofs.YtcofbakhhcgbfaaDoorW.PrintWords Go.Proofs.YtcofbakhhcgbfaaDoorW.PrintLast Go.Proofs.YtcofbakhhcgbfaaDoorW.PrintMore
open EC
set_option linter.unusedVariables false

/-- An empty row of the call's own. -/
theorem row_none (w : World) : Kd.R (Kd.int .i32) 37 (w.alloc (.cells #[] 37)) w.heap.size (fun _ => True) (.slice (some ⟨w.heap.size, 0, none⟩) 0 0) [] := by
  refine ⟨fun _ _ => trivial, [], ?_, ?_⟩
  · have h2 := World.ownsRow_lit (base := w.heap.size) (e := 37) (size := 1) w #[] 0 (Nat.le_refl _) (by simp [maxLen]) (by simp)
    show (w.alloc (.cells #[] 37)).ownsRow w.heap.size 37 1 (.slice (some ⟨w.heap.size, 0, none⟩) 0 0) 0 []
    simpa using h2
  · exact ⟨by simp, fun j p hj => by simp at hj⟩

set_option maxHeartbeats 4000000 in
set_option maxRecDepth 100000 in
theorem clone_calls (A : Option Addr) (c : Nat) (l : List Int) (w : World) (hr : Kd.C (Kd.int .i32) w A l.length l) (hl : l.length < 35184372088832) :
    Calls Tryd.prog 30 #[.slice A l.length c] w fun e w' => ∃ v : Value, e = .returned v ∧ Kd.R (Kd.int .i32) 37 w' w.heap.size (fun _ => True) v l ∧ Below w.heap.size w w' := by
  have HR := Aside0.mk hr
  have HL := Aside0.mk hl
  clear hr hl
  have q := fun (w : World) (a : Option Addr) (n c n' c' : Nat) => Lib.run_eql_slice_nil (P := Tryd.prog) w 27 37 a n c n' c' Tryd.underlying27
  rcases A with _ | ad
  · have h0 : l = [] := by
      have := HR.out
      rcases l with _ | ⟨x, l⟩
      · rfl
      · obtain ⟨ad, h, _⟩ := this.2.2 (by simp)
        cases h
    subst h0
    go_enter Tryd.func30, Tryd.ntmps30
    go_wp2
    go_ret
    exact ⟨_, rfl, Kd.R_nil _ _ _ _ _, Below.refl _ _⟩
  · have KEY := Aside0.mk (row_none w)
    go_enter Tryd.func30, Tryd.ntmps30
    go_wp2_with (first | ((with_reducible refine gate_builtin (b := .append) (xs := #[.tmp 5, .tmp 6]) rfl ?_); at_builtin; refine Kd.R_append_rows (Kd.int .i32) (w0 := w) w.heap.size rfl (.tmp 5) (.tmp 6) 27 37 (.int .i32 0) 4 rfl Tryd.underlying27 info_cell rfl (by decide) (by omega) (.slice (some ⟨w.heap.size, 0, none⟩) 0 0) [] l (some ad) l.length c (fun _ => True) (fun _ => False) rfl rfl KEY.out (Kd.C_below HR.out (below_alloc (Below.refl _ _) _)) (fun _ _ h => h) (fun _ h => h.elim) (fun _ _ => trivial) (below_alloc (Below.refl _ _) _) (by simp) ?aL ?_; (case aL => have := HL.out; simp; omega); intro v1 w2 ho hb _ _; rw [List.nil_append] at ho; have HO := Aside0.mk ho; have HB := Aside0.mk hb; clear ho hb))
    go_ret
    exact ⟨_, rfl, HO.out, HB.out⟩

def codec_With.f (a0_0 : Int) (a0_1 a0_2 : Bool) (l0_3 l1 : List Int) : Option (Int × Bool × Bool × List Int) := if l1.length < 35184372088832 then some (a0_0, a0_1, a0_2, l1) else none

theorem clone_two (A : Option Addr) (c : Nat) (l : List Int) (w : World) (e0 : Int) (z : Value) (hr : Kd.C (Kd.int .i32) w A l.length l) (hl : l.length < 35184372088832) (a : Int) (b1 b2 : Bool) (v0 : Value) :
    Calls Tryd.prog 30 #[.slice A l.length c] ((w.alloc (.cells #[.int .u8 a, .bool b1, .bool b2, v0] 29)).alloc (.cells #[.int .u8 e0, .bool false, .bool false, z] 29)) fun e w1 =>
      ∃ v : Value, e = .returned v ∧ DocAt w1 w.heap.size a b1 b2 v0 ∧ DocAt w1 (w.heap.size + 1) e0 false false z ∧ Kd.R (Kd.int .i32) 37 w1 (w.heap.size + 1 + 1) (fun _ => True) v l ∧ Below w.heap.size w w1 := by
  have at_ : ∀ (W : World) (o : Obj), (W.alloc o).heap[W.heap.size]? = some o := fun W o => by show (W.heap.push o)[W.heap.size]? = _; simp
  generalize hx : Obj.cells #[.int .u8 a, .bool b1, .bool b2, v0] 29 = X
  generalize hy : Obj.cells #[.int .u8 e0, .bool false, .bool false, z] 29 = Y
  have s1 : (w.alloc X).heap.size = w.heap.size + 1 := Array.size_push _
  have s2 : ((w.alloc X).alloc Y).heap.size = w.heap.size + 1 + 1 := (Array.size_push _).trans (congrArg (· + 1) s1)
  have B : Below w.heap.size w ((w.alloc X).alloc Y) := ((Below.refl _ _).alloc (Nat.le_refl _) X).alloc (by omega) Y
  refine (clone_calls A c l _ ((Kd.heap_int .i32).C (fun k hk => B.block k hk) hr) hl).mono ?_
  rintro e w1 ⟨v, rfl, hR, hB⟩
  rw [s2] at hR hB
  refine ⟨v, rfl, ?_, ?_, hR, B.trans (hB.mono (by omega))⟩
  · show w1.heap[_]? = _
    rw [hB.block _ (by omega), Below.heap_alloc _ _ _ (by omega), at_, ← hx]
  · show w1.heap[_]? = _
    rw [hB.block _ (by omega), ← s1, at_, ← hy]
theorem with_end {w w1 : World} {v : Value} {r : List Int} (hR : Kd.R (Kd.int .i32) 37 w1 (w.heap.size + 1 + 1) (fun _ => True) v r) (hB : Below w.heap.size w w1) (p p0 p1 p2 p3 : Nat) (u u0 u1 u2 u3 : Value) :
    Kd.R (Kd.int .i32) 37 (((((w1.setCell ⟨w.heap.size, p, none⟩ u).setCell ⟨w.heap.size + 1, p0, none⟩ u0).setCell ⟨w.heap.size + 1, p1, none⟩ u1).setCell ⟨w.heap.size + 1, p2, none⟩ u2).setCell ⟨w.heap.size + 1, p3, none⟩ u3) w.heap.size (fun _ => True) v r ∧
    Below w.heap.size w (((((w1.setCell ⟨w.heap.size, p, none⟩ u).setCell ⟨w.heap.size + 1, p0, none⟩ u0).setCell ⟨w.heap.size + 1, p1, none⟩ u1).setCell ⟨w.heap.size + 1, p2, none⟩ u2).setCell ⟨w.heap.size + 1, p3, none⟩ u3) := by
  have go : ∀ (W : World) (b p : Nat) (u : Value), b < w.heap.size + 1 + 1 → Kd.R (Kd.int .i32) 37 W (w.heap.size + 1 + 1) (fun _ => True) v r → Kd.R (Kd.int .i32) 37 (W.setCell ⟨b, p, none⟩ u) (w.heap.size + 1 + 1) (fun _ => True) v r := fun W b p u hb h =>
    Kd.R_mono (Kd.R_far (Kd.R_bound h) (p := ⟨b, p, none⟩) (fun k hk => by have := hk.2.1; show k ≠ b; omega) u) (fun _ _ => trivial)
  refine ⟨Kd.R_lower (go _ _ _ _ (by omega) (go _ _ _ _ (by omega) (go _ _ _ _ (by omega) (go _ _ _ _ (by omega) (go _ _ _ _ (by omega) hR))))) (by omega), ?_⟩
  exact ((((hB.setCell (Nat.le_refl _) _).setCell (Nat.le_succ _) _).setCell (Nat.le_succ _) _).setCell (Nat.le_succ _) _).setCell (Nat.le_succ _) _

set_option maxHeartbeats 4000000 in
set_option maxRecDepth 100000 in
theorem codec_With.calls (a0_0 : Int) (a0_1 : Bool) (a0_2 : Bool) (A0_3 : Option Addr) (c0_3 : Nat) (l0_3 : List Int) (A1 : Option Addr) (c1 : Nat) (l1 : List Int) (r1 : Int) (r2 r3 : Bool) (r4 : List Int) (w : World) (hr0_3 : Kd.C (Kd.int .i32) w A0_3 l0_3.length l0_3) (hc0_3 : l0_3.length ≤ c0_3) (hr1 : Kd.C (Kd.int .i32) w A1 l1.length l1) (hc1 : l1.length ≤ c1) (h : codec_With.f a0_0 a0_1 a0_2 l0_3 l1 = some (r1, r2, r3, r4)) :
    Calls Tryd.prog 15 #[.agg #[.int .u8 a0_0, .bool a0_1, .bool a0_2, .slice A0_3 l0_3.length c0_3], .slice A1 l1.length c1] w fun e w' => ∃ v3_ : Value, e = .returned (.agg #[.int .u8 r1, .bool r2, .bool r3, v3_]) ∧ Kd.R (Kd.int .i32) 37 w' w.heap.size (fun _ => True) v3_ r4 ∧ Below w.heap.size w w' := by
  have hl : l1.length < 35184372088832 ∧ a0_0 = r1 ∧ a0_1 = r2 ∧ a0_2 = r3 ∧ l1 = r4 := by
    unfold codec_With.f at h
    by_cases q : l1.length < 35184372088832
    · rw [if_pos q] at h
      simp only [Option.some.injEq, Prod.mk.injEq] at h
      exact ⟨q, h⟩
    · rw [if_neg q] at h; cases h
  obtain ⟨hl, rfl, rfl, rfl, rfl⟩ := hl
  have HR := Aside0.mk hr1
  have HL := Aside0.mk hl
  clear hr0_3 hc0_3 hr1 hc1 h hl
  go_enter Tryd.func15, Tryd.ntmps15
  go_wp2_with (fail)
  refine (clone_two A1 c1 l1 w _ _ HR.out HL.out a0_0 a0_1 a0_2 (.slice A0_3 l0_3.length c0_3)).mono ?_
  rintro e w1 ⟨v, rfl, hd, h0, hR, hB⟩
  obtain ⟨A2, C2, rfl⟩ := Kd.R_slice hR
  have c0 := hd.c0
  have c1 := hd.c1
  have c2 := hd.c2
  have c3 := hd.c3
  have cf := hd.f
  have d0 := h0.c0
  have d1 := h0.c1
  have d2 := h0.c2
  have d3 := h0.c3
  have df := h0.f
  have END := Aside0.mk (with_end hR hB)
  clear hd h0 hR hB
  go_wp2
  refine bodyPost_ret (v := .agg #[.int .u8 a0_0, .bool a0_1, .bool a0_2, .slice A2 l1.length C2]) (by simp [results, Tryd.results15, go_sem, d0, d1, d2, d3]) rfl ?_
  exact ⟨_, rfl, END.out _ _ _ _ _ _ _ _ _ _⟩
#print axioms codec_With.calls
end Go.Proofs.YtcofbakhhcgbfaaDoor.PX
