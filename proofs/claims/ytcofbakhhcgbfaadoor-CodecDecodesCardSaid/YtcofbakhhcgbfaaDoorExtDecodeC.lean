/- redactor/codec.Decode at every encoding and every slice of bytes: it returns what the plain function 'codec_Decode.f' says. Conditions: the library's two tables stand in memory. -/
import Derived.Test.YtcofbakhhcgbfaaDoorExtDoc16
import Derived.Test.YtcofbakhhcgbfaaDoorExtWays
import Derived.Outline
import Derived.Laws.EntriesVeiled
namespace Go.Proofs.YtcofbakhhcgbfaaDoor.PX
open Go.RowKit Go.Proofs.YtcofbakhhcgbfaaDoorW.PrintWords Go.Proofs.YtcofbakhhcgbfaaDoorW.PrintLast Go.Proofs.YtcofbakhhcgbfaaDoorW.PrintMore
open EC
set_option linter.unusedVariables false

def codec_Decode.f (k : Nat) (a0 : Int) (l1 : List Int) : Option (Int × Bool × Bool × List Int × Int) :=
  if a0 = 1 then (PD.utf8_Decode.f k l1).bind fun r => some (1, false, false, r, 0)
  else if a0 = 2 then (if (s2 l1).2 = true ∧ ¬ 2 ≤ l1.length then none else (PM.utf16_Decode.f k (if (s2 l1).2 = true then l1.drop 2 else l1) (s2 l1).1).bind fun r => some (2, (s2 l1).1, (s2 l1).2, r, 0))
  else if a0 = 3 then (if l1.length < 35184372088832 ∧ ∀ x ∈ l1, 0 ≤ x ∧ x < 256 then some (3, false, false, l1, 0) else none)
  else some (0, false, false, [], 1)
theorem codec_Decode.mono : ∀ a0 a1 k, LeO (codec_Decode.f k a0 a1) (codec_Decode.f (k + 1) a0 a1) := by
  intro a0 a1 k
  unfold codec_Decode.f
  refine LeO.ite (LeO.bind (PD.utf8_Decode.mono _ _) (fun _ => LeO.refl _)) (LeO.ite (LeO.ite (LeO.refl _) (LeO.bind (PM.utf16_Decode.mono _ _ _) (fun _ => LeO.refl _))) (LeO.refl _))

theorem second_block (w : World) (a b : Obj) : ((w.alloc a).alloc b).heap[w.heap.size + 1]? = some b := by
  have s1 : (w.alloc a).heap.size = w.heap.size + 1 := Array.size_push _
  have at_ : ∀ (W : World) (o : Obj), (W.alloc o).heap[W.heap.size]? = some o := fun W o => by show (W.heap.push o)[W.heap.size]? = _; simp
  rw [← s1]; exact at_ _ _

theorem four (w : World) (a b c d : Obj) : Below w.heap.size w ((((w.alloc a).alloc b).alloc c).alloc d) ∧ ((((w.alloc a).alloc b).alloc c).alloc d).heap[w.heap.size]? = some a ∧ ((w.alloc a).alloc b).heap[w.heap.size + 1]? = some b ∧ ((((w.alloc a).alloc b).alloc c).alloc d).heap[w.heap.size + 1 + 1 + 1]? = some d := by
  have s1 : (w.alloc a).heap.size = w.heap.size + 1 := Array.size_push _
  have s2 : ((w.alloc a).alloc b).heap.size = w.heap.size + 1 + 1 := (Array.size_push _).trans (congrArg (· + 1) s1)
  have s3 : (((w.alloc a).alloc b).alloc c).heap.size = w.heap.size + 1 + 1 + 1 := (Array.size_push _).trans (congrArg (· + 1) s2)
  have at_ : ∀ (W : World) (o : Obj), (W.alloc o).heap[W.heap.size]? = some o := fun W o => by show (W.heap.push o)[W.heap.size]? = _; simp
  refine ⟨(((Below.refl _ _).alloc (Nat.le_refl _) a).alloc (by omega) b).alloc (by omega) c |>.alloc (by omega) d, ?_, ?_, ?_⟩
  · rw [Below.heap_alloc _ _ _ (by omega), Below.heap_alloc _ _ _ (by omega), Below.heap_alloc _ _ _ (by omega)]; exact at_ _ _
  · rw [← s1]; exact at_ _ _
  · rw [← s3]; exact at_ _ _

theorem in4 {fn : Nat} {w : World} {A1 : Option Addr} {c1 : Nat} {l1 r : List Int} {en : Int} {b1 b2 : Bool} (hr1 : Kd.C (Kd.int .u8) w A1 l1.length l1) (hGL : (Lib.Utf8Tabs 0 1) w)
    (hf : ∀ (W : World) (g : Nat), DocAt W g en false false (.slice none 0 0) → (∀ W', Below g W W' → Kd.C (Kd.int .u8) W' A1 l1.length l1) → (Lib.Utf8Tabs 0 1) W → Calls Tryd.prog fn #[.pointer (some ⟨g, 0, none⟩), .slice A1 l1.length c1] W (DocEnd W g en b1 b2 r)) (b c : Obj) :
    Calls Tryd.prog fn #[.pointer (some ⟨w.heap.size + 1 + 1 + 1, 0, none⟩), .slice A1 l1.length c1] ((((w.alloc (.cells #[.int .u8 0, .bool false, .bool false, .slice none 0 0] 29)).alloc b).alloc c).alloc (.cells #[.int .u8 en, .bool false, .bool false, .slice none 0 0] 29)) fun e w1 =>
      e = .returned (.tuple #[]) ∧ ∃ v, DocAt w1 (w.heap.size + 1 + 1 + 1) en b1 b2 v ∧ DocAt w1 w.heap.size 0 false false (.slice none 0 0) ∧ Kd.R (Kd.int .i32) 37 w1 (w.heap.size + 1) (fun _ => True) v r ∧ Below w.heap.size w w1 := by
  obtain ⟨hB, h0, _, h3⟩ := four w (.cells #[.int .u8 0, .bool false, .bool false, .slice none 0 0] 29) b c (.cells #[.int .u8 en, .bool false, .bool false, .slice none 0 0] 29)
  refine (hf _ (w.heap.size + 1 + 1 + 1) h3 (fun W' hW => (Kd.heap_int .u8).C (fun k hk => (hW.block k (by omega)).trans (hB.block k hk)) hr1) (gl_below hGL hB)).mono ?_
  rintro e w1 ⟨rfl, v, hd, hR, hb⟩
  exact ⟨rfl, v, hd, h0 |> fun h => (DocAt.of h (hb.block _ (by omega))), Kd.R_lower hR (by omega), hB.trans (hb.mono (by omega))⟩

/-- The end of Decode. -/
def DecEnd (w : World) (en : Int) (b1 b2 : Bool) (l : List Int) (er : Int) (e : Ending) (w' : World) : Prop :=
  ∃ v3_ : Value, e = .returned (.tuple #[.agg #[.int .u8 en, .bool b1, .bool b2, v3_], .int .u16 er]) ∧ Kd.R (Kd.int .i32) 37 w' w.heap.size (fun _ => True) v3_ l ∧ Below w.heap.size w w'
theorem dec_end {w w1 : World} {en : Int} {b1 b2 : Bool} {v : Value} {r : List Int} (hR : Kd.R (Kd.int .i32) 37 w1 (w.heap.size + 1) (fun _ => True) v r) (hB : Below w.heap.size w w1) (p0 p1 p2 p3 : Nat) (u0 u1 u2 u3 : Value) :
    DecEnd w en b1 b2 r 0 (.returned (.tuple #[.agg #[.int .u8 en, .bool b1, .bool b2, v], .int .u16 0])) ((((w1.setCell ⟨w.heap.size, p0, none⟩ u0).setCell ⟨w.heap.size, p1, none⟩ u1).setCell ⟨w.heap.size, p2, none⟩ u2).setCell ⟨w.heap.size, p3, none⟩ u3) := by
  refine ⟨v, rfl, ?_, (((hB.setCell (Nat.le_refl _) _).setCell (Nat.le_refl _) _).setCell (Nat.le_refl _) _).setCell (Nat.le_refl _) _⟩
  have go : ∀ (W : World) (p : Nat) (u : Value), Kd.R (Kd.int .i32) 37 W (w.heap.size + 1) (fun _ => True) v r → Kd.R (Kd.int .i32) 37 (W.setCell ⟨w.heap.size, p, none⟩ u) (w.heap.size + 1) (fun _ => True) v r := fun W p u h =>
    Kd.R_mono (Kd.R_far (Kd.R_bound h) (p := ⟨w.heap.size, p, none⟩) (fun k hk => by have := hk.2.1; show k ≠ w.heap.size; omega) u) (fun _ _ => trivial)
  exact Kd.R_lower (go _ _ _ (go _ _ _ (go _ _ _ (go _ _ _ hR)))) (by omega)

set_option maxHeartbeats 4000000 in
set_option maxRecDepth 100000 in
theorem dec_way (w : World) (A1 : Option Addr) (c1 : Nat) (l1 r : List Int) (en : Int) (b1 b2 : Bool) (nm : ByteArray) (fd fe : Nat) (hfd : fd = 34 ∨ fd = 38 ∨ fd = 40)
    (hl : (Instr.lookup 57 (.map (some (w.heap.size + 1))) (.int .u8 en) true).run Tryd.prog ((w.alloc (.cells #[.int .u8 0, .bool false, .bool false, .slice none 0 0] 29)).alloc (.map entries 3)) = .ok (.tuple #[.agg #[.string nm, .func (.func fd) #[] #[], .func (.func fe) #[] #[]], .bool true]) ((w.alloc (.cells #[.int .u8 0, .bool false, .bool false, .slice none 0 0] 29)).alloc (.map entries 3)))
    (hcall : ∀ b c : Obj, Calls Tryd.prog fd #[.pointer (some ⟨w.heap.size + 1 + 1 + 1, 0, none⟩), .slice A1 l1.length c1] ((((w.alloc (.cells #[.int .u8 0, .bool false, .bool false, .slice none 0 0] 29)).alloc b).alloc c).alloc (.cells #[.int .u8 en, .bool false, .bool false, .slice none 0 0] 29)) fun e w1 =>
      e = .returned (.tuple #[]) ∧ ∃ v, DocAt w1 (w.heap.size + 1 + 1 + 1) en b1 b2 v ∧ DocAt w1 w.heap.size 0 false false (.slice none 0 0) ∧ Kd.R (Kd.int .i32) 37 w1 (w.heap.size + 1) (fun _ => True) v r ∧ Below w.heap.size w w1) :
    Calls Tryd.prog 12 #[.int .u8 en, .slice A1 l1.length c1] w (DecEnd w en b1 b2 r 0) := by
  have HCALL := Aside0.mk hcall
  clear hcall
  go_enter Tryd.func12, Tryd.ntmps12
  go_wp2_with (go_at_call 25; refine (ways_calls _).mono ?_; rintro e w1 ⟨rfl, rfl⟩)
  rcases hfd with rfl | rfl | rfl
  all_goals
    go_wp2_with (fail)
    refine (HCALL.out _ _).mono ?_
    rintro e w1 ⟨rfl, v, hd, h0, hR, hB⟩
    obtain ⟨A2, C2, rfl⟩ := Kd.R_slice hR
    have c0 := hd.c0
    have c1 := hd.c1
    have c2 := hd.c2
    have c3 := hd.c3
    have d0 := h0.c0
    have d1 := h0.c1
    have d2 := h0.c2
    have d3 := h0.c3
    have df := h0.f
    have END := Aside0.mk (dec_end (en := en) (b1 := b1) (b2 := b2) hR hB)
    clear hd h0 hR hB hl
    go_wp2
    refine bodyPost_ret (v := .tuple #[.agg #[.int .u8 en, .bool b1, .bool b2, .slice A2 r.length C2], .int .u16 0]) (by simp [results, Tryd.results12, go_sem, d0, d1, d2, d3]) rfl (END.out _ _ _ _ _ _ _ _)

set_option maxHeartbeats 4000000 in
set_option maxRecDepth 100000 in
theorem dec_no (w : World) (A1 : Option Addr) (c1 : Nat) (l1 : List Int) (en : Int) (h1 : en ≠ 1) (h2 : en ≠ 2) (h3 : en ≠ 3) :
    Calls Tryd.prog 12 #[.int .u8 en, .slice A1 l1.length c1] w (DecEnd w 0 false false [] 1) := by
  have hl := look_no ((w.alloc (.cells #[.int .u8 0, .bool false, .bool false, .slice none 0 0] 29)).alloc (.map entries 3)) (w.heap.size + 1) (four w _ _ (.cells #[] 0) (.cells #[] 0)).2.2.1 en h1 h2 h3
  clear h1 h2 h3
  go_enter Tryd.func12, Tryd.ntmps12
  go_wp2_with (go_at_call 25; refine (ways_calls _).mono ?_; rintro e w1 ⟨rfl, rfl⟩)
  refine bodyPost_ret (v := .tuple #[.agg #[.int .u8 0, .bool false, .bool false, .slice none 0 0], .int .u16 1]) (by simp [results, Tryd.results12, go_sem]) rfl ?_
  have B := (four w (.cells #[.int .u8 0, .bool false, .bool false, .slice none 0 0] 29) (.map entries 3) (.cells #[.string ⟨#[]⟩, .nilFunc, .nilFunc] 55) (.cells #[] 0)).1
  refine ⟨_, rfl, Kd.R_nil _ _ _ _ _, ((((Below.refl _ _).alloc (Nat.le_refl _) _).alloc ?_ _).alloc ?_ _)⟩
  · show _ ≤ (w.heap.push _).size; simp
  · show _ ≤ ((w.heap.push _).push _).size; simp; omega

theorem codec_Decode.calls (k : Nat) (a0 : Int) (A1 : Option Addr) (c1 : Nat) (l1 : List Int) (r1 : Int) (r2 r3 : Bool) (r4 : List Int) (r5 : Int) (w : World) (hr1 : Kd.C (Kd.int .u8) w A1 l1.length l1) (hc1 : l1.length ≤ c1) (hGL : (Lib.Utf8Tabs 0 1) w) (h : codec_Decode.f k a0 l1 = some (r1, r2, r3, r4, r5)) :
    Calls Tryd.prog 12 #[.int .u8 a0, .slice A1 l1.length c1] w fun e w' => ∃ v3_ : Value, e = .returned (.tuple #[.agg #[.int .u8 r1, .bool r2, .bool r3, v3_], .int .u16 r5]) ∧ Kd.R (Kd.int .i32) 37 w' w.heap.size (fun _ => True) v3_ r4 ∧ Below w.heap.size w w' := by
  have L := second_block w (.cells #[.int .u8 0, .bool false, .bool false, .slice none 0 0] 29) (.map entries 3)
  unfold codec_Decode.f at h
  by_cases h1 : a0 = 1
  · subst h1
    rw [if_pos rfl] at h
    obtain ⟨q, hq, h⟩ := Option.bind_eq_some_iff.1 h
    cases h
    exact dec_way w A1 c1 l1 _ 1 false false _ _ _ (.inl rfl) (look1 _ _ L) (in4 hr1 hGL (fun W g hg hC hG => ways1_calls k W g 1 false false _ A1 c1 l1 _ hg (hC W (Below.refl _ _)) hc1 hG hq))
  rw [if_neg h1] at h
  by_cases h2 : a0 = 2
  · subst h2
    rw [if_pos rfl] at h
    by_cases hn : (s2 l1).2 = true ∧ ¬ 2 ≤ l1.length
    · rw [if_pos hn] at h; cases h
    rw [if_neg hn] at h
    obtain ⟨q, hq, h⟩ := Option.bind_eq_some_iff.1 h
    cases h
    exact dec_way w A1 c1 l1 _ 2 _ _ _ _ _ (.inr (.inl rfl)) (look2 _ _ L) (in4 hr1 hGL (fun W g hg hC hG => decode16_calls k W g 2 A1 c1 l1 _ hg hC hc1 hq (fun h5 => Classical.byContradiction fun h6 => hn ⟨h5, h6⟩)))
  rw [if_neg h2] at h
  by_cases h3 : a0 = 3
  · subst h3
    rw [if_pos rfl] at h
    by_cases hn : l1.length < 35184372088832 ∧ ∀ x ∈ l1, 0 ≤ x ∧ x < 256
    · rw [if_pos hn] at h
      cases h
      exact dec_way w A1 c1 l1 _ 3 false false _ _ _ (.inr (.inr rfl)) (look3 _ _ L) (in4 hr1 hGL (fun W g hg hC hG => decode1_calls W g 3 false false A1 c1 l1 hg hC hn.1 hn.2))
    · rw [if_neg hn] at h; cases h
  rw [if_neg h3] at h
  cases h
  exact dec_no w A1 c1 l1 a0 h1 h2 h3
#print axioms codec_Decode.calls
end Go.Proofs.YtcofbakhhcgbfaaDoor.PX
