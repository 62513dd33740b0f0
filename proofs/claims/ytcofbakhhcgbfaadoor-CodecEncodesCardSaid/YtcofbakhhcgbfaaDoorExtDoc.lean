/- The three ways in which package codec reads bytes into a document behind a pointer: each leaves in it the cells that the plain functions say. Conditions: the document is the last block, the bytes are read elsewhere, the library's two tables stand in memory. -/
import Derived.Test.YtcofbakhhcgbfaaDoorPD1
import Derived.Test.YtcofbakhhcgbfaaDoorPM2
import Derived.Test.YtcofbakhhcgbfaaDoorPM3
import Derived.Test.YtcofbakhhcgbfaaDoorExtGl
namespace Go.Proofs.YtcofbakhhcgbfaaDoor.EC
open Go.RowKit Go.Proofs.YtcofbakhhcgbfaaDoorW.PrintWords Go.Proofs.YtcofbakhhcgbfaaDoorW.PrintLast Go.Proofs.YtcofbakhhcgbfaaDoorW.PrintMore
set_option linter.unusedVariables false

/-- A document in block g. -/
def DocAt (W : World) (g : Nat) (e : Int) (b1 b2 : Bool) (v : Value) : Prop := W.heap[g]? = some (.cells #[.int .u8 e, .bool b1, .bool b2, v] 29 (0, 0))
section
variable {W W' : World} {g : Nat} {e : Int} {b1 b2 : Bool} {v : Value}
theorem DocAt.c0 (h : DocAt W g e b1 b2 v) : W.cell? ⟨g, 0, none⟩ = some (.int .u8 e) := by unfold DocAt at h; simp [World.cell?, h]
theorem DocAt.c1 (h : DocAt W g e b1 b2 v) : W.cell? ⟨g, 1, none⟩ = some (.bool b1) := by unfold DocAt at h; simp [World.cell?, h]
theorem DocAt.c2 (h : DocAt W g e b1 b2 v) : W.cell? ⟨g, 2, none⟩ = some (.bool b2) := by unfold DocAt at h; simp [World.cell?, h]
theorem DocAt.c3 (h : DocAt W g e b1 b2 v) : W.cell? ⟨g, 3, none⟩ = some v := by unfold DocAt at h; simp [World.cell?, h]
theorem DocAt.f (h : DocAt W g e b1 b2 v) (i : Nat) : W.frozen? ⟨g, i, none⟩ = false := by unfold DocAt at h; simp [World.frozen?, h]
theorem DocAt.lt (h : DocAt W g e b1 b2 v) : g < W.heap.size := (Array.getElem?_eq_some_iff.1 h).1
theorem DocAt.of (h : DocAt W g e b1 b2 v) (hW : W'.heap[g]? = W.heap[g]?) : DocAt W' g e b1 b2 v := hW.trans h
theorem DocAt.below (h : DocAt W g e b1 b2 v) (hb : Below W.heap.size W W') : DocAt W' g e b1 b2 v := h.of (hb.block g h.lt)
theorem DocAt.set1 (h : DocAt W g e b1 b2 v) (x : Bool) : DocAt (W.setCell ⟨g, 1, none⟩ (.bool x)) g e x b2 v := Go.heap_setCell_same W g 1 _ _ _ h
theorem DocAt.set2 (h : DocAt W g e b1 b2 v) (x : Bool) : DocAt (W.setCell ⟨g, 2, none⟩ (.bool x)) g e b1 x v := Go.heap_setCell_same W g 2 _ _ _ h
theorem DocAt.set3 (h : DocAt W g e b1 b2 v) (x : Value) : DocAt (W.setCell ⟨g, 3, none⟩ x) g e b1 b2 x := Go.heap_setCell_same W g 3 _ _ _ h
end

/-- How such a way ends. -/
def DocEnd (w : World) (g : Nat) (e0 : Int) (b1 b2 : Bool) (r : List Int) (e : Ending) (w' : World) : Prop :=
  e = .returned (.tuple #[]) ∧ ∃ v, DocAt w' g e0 b1 b2 v ∧ Kd.R (Kd.int .i32) 37 w' (g + 1) (fun _ => True) v r ∧ Below g w w'

theorem dec_calls (k : Nat) (A0 : Option Addr) (c0 : Nat) (l0 : List Int) (r : List Int) (w : World) (hr0 : Kd.C (Kd.int .u8) w A0 l0.length l0) (hc0 : l0.length ≤ c0) (hGL : (Lib.Utf8Tabs 0 1) w) (h : PD.utf8_Decode.f k l0 = some r) :
    Calls Tryd.prog 35 #[.slice A0 l0.length c0] w fun e w' => ∃ v0_ : Value, e = .returned (v0_) ∧ Kd.R (Kd.int .i32) 37 w' w.heap.size (fun _ => True) v0_ r ∧ Below w.heap.size w w' := by
  have hs0 : Kd.V (Kd.int .u8) 5 w w.heap.size (fun k_ => k_ < w.heap.size) (.slice A0 l0.length c0) l0 :=
    Kd.V_mk hc0 (fun W' hW => (Kd.heap_int .u8).C (fun k hk => hW k hk hk) hr0)
  refine (PD.utf8_Decode.calls k (fun k_ => k_ < w.heap.size) A0 c0 l0 r w hs0 hGL h).mono ?_
  rintro e w' ⟨v, he, hR, hB⟩
  exact ⟨v, he, Kd.R_mono hR (fun _ _ => trivial), hB⟩
theorem dec16_calls (k : Nat) (A0 : Option Addr) (c0 : Nat) (l0 : List Int) (big : Bool) (r : List Int) (w : World) (hr0 : Kd.C (Kd.int .u8) w A0 l0.length l0) (hc0 : l0.length ≤ c0) (h : PM.utf16_Decode.f k l0 big = some r) :
    Calls Tryd.prog 55 #[.slice A0 l0.length c0, .bool big] w fun e w' => ∃ v0_ : Value, e = .returned (v0_) ∧ Kd.R (Kd.int .i32) 37 w' w.heap.size (fun _ => True) v0_ r ∧ Below w.heap.size w w' := by
  have hs0 : Kd.V (Kd.int .u8) 5 w w.heap.size (fun k_ => k_ < w.heap.size) (.slice A0 l0.length c0) l0 :=
    Kd.V_mk hc0 (fun W' hW => (Kd.heap_int .u8).C (fun k hk => hW k hk hk) hr0)
  refine (PM.utf16_Decode.calls k (fun k_ => k_ < w.heap.size) A0 c0 l0 big r w hs0 h).mono ?_
  rintro e w' ⟨v, he, hR, hB⟩
  exact ⟨v, he, Kd.R_mono hR (fun _ _ => trivial), hB⟩

/-- A row made behind the document, and the document set: the end. -/
theorem doc_end {w W w1 : World} {g : Nat} {e0 : Int} {b1 b2 : Bool} {cur : Value} {r : List Int} {v : Value} (hg : DocAt W g e0 b1 b2 cur) (hlt : w.heap.size ≤ W.heap.size) (hbw : Below g w W) (hR : Kd.R (Kd.int .i32) 37 w1 W.heap.size (fun _ => True) v r) (hB : Below W.heap.size W w1) :
    DocAt (w1.setCell ⟨g, 3, none⟩ v) g e0 b1 b2 v ∧ Kd.R (Kd.int .i32) 37 (w1.setCell ⟨g, 3, none⟩ v) (g + 1) (fun _ => True) v r ∧ Below g w (w1.setCell ⟨g, 3, none⟩ v) := by
  refine ⟨(hg.below hB).set3 v, ?_, ?_⟩
  · have h1 := Kd.R_lower (base' := g + 1) (Kd.R_bound hR) hg.lt
    exact Kd.R_mono (Kd.R_far h1 (p := ⟨g, 3, none⟩) (fun k hk => by have := hk.2.1; have := hg.lt; show k ≠ g; omega) v) (fun _ _ => trivial)
  · exact (hbw.trans (hB.mono (Nat.le_of_lt hg.lt))).setCell (Nat.le_refl g) v

set_option maxHeartbeats 1000000 in
set_option maxRecDepth 100000 in
theorem ways1_calls (k : Nat) (w : World) (g : Nat) (e0 : Int) (b1 b2 : Bool) (cur : Value) (A : Option Addr) (c : Nat) (l r : List Int) (hg : DocAt w g e0 b1 b2 cur) (hr : Kd.C (Kd.int .u8) w A l.length l) (hc : l.length ≤ c)
    (hGL : (Lib.Utf8Tabs 0 1) w) (h : PD.utf8_Decode.f k l = some r) :
    Calls Tryd.prog 34 #[.pointer (some ⟨g, 0, none⟩), .slice A l.length c] w (DocEnd w g e0 b1 b2 r) := by
  have key := dec_calls k A c l r w hr hc hGL h
  go_enter Tryd.func34, Tryd.ntmps34
  go_wp2_with (fail)
  refine key.mono ?_
  rintro e w1 ⟨v, rfl, hR, hB⟩
  obtain ⟨A2, c2, rfl⟩ := Kd.R_slice hR
  have hd := hg.below hB
  have c3 := hd.c3
  have f3 := hd.f 3
  have END := Aside0.mk (doc_end hg (Nat.le_refl _) (Below.refl _ _) hR hB)
  have HK := Aside0.mk key
  clear hd hR hB key
  go_wp2
  go_end0
  exact ⟨rfl, _, END.out⟩

theorem info_cell : (Tryd.prog.info? 37).map (fun i => (i.zero, i.size, i.bytes)) = some (some (.int .i32 0), 1, 4) := by kernel_rfl
theorem take_rd (l : List Int) (j : Nat) (h : j < l.length) : l.take (j + 1) = l.take j ++ [rd l j] := by
  rw [List.take_succ_eq_append_getElem h]
  unfold rd
  simp [List.getElem?_eq_getElem h]

set_option maxHeartbeats 4000000 in
set_option maxRecDepth 100000 in
theorem decode1_calls (w : World) (g : Nat) (e0 : Int) (b1 b2 : Bool) (A : Option Addr) (c : Nat) (l : List Int) (hg : DocAt w g e0 b1 b2 (.slice none 0 0)) (hr : ∀ W', Below g w W' → Kd.C (Kd.int .u8) W' A l.length l) (hl : l.length < 35184372088832) (hb : ∀ x ∈ l, 0 ≤ x ∧ x < 256) :
    Calls Tryd.prog 40 #[.pointer (some ⟨g, 0, none⟩), .slice A l.length c] w (DocEnd w g e0 b1 b2 l) := by
  have HR := Aside0.mk hr
  have HL := Aside0.mk hl
  have HBY := Aside0.mk hb
  have HG := Aside0.mk hg
  clear hr hl hb hg
  go_enter Tryd.func40, Tryd.ntmps40
  go_wp2
  go_loopg [8] (l.length + 1) (fun kq v8 wr => ∃ (j : Nat) (y : List Int) (v : Value), v8 = .int .i64 j ∧ Aside0 (kq + j = l.length + 1) ∧ Aside0 (y = l.take j) ∧ Aside0 (DocAt wr g e0 b1 b2 v) ∧ Aside0 (Kd.R (Kd.int .i32) 37 wr (g + 1) (fun _ => True) v y) ∧ Aside0 (Below g w wr))
  case atStart => exact ⟨0, [], _, rfl, ⟨by omega⟩, ⟨rfl⟩, HG, ⟨Kd.R_nil _ _ _ _ _⟩, ⟨Below.refl _ _⟩⟩
  case round =>
    obtain ⟨j, y, v, rfl, HK, HY, HD, HV, HB⟩ := hrel
    obtain ⟨A2, c2, rfl⟩ := Kd.R_slice HV.out
    by_cases hlt : j < l.length
    · obtain ⟨k1, rfl⟩ : ∃ m, gk = m + 1 := ⟨gk - 1, by have := HK.out; omega⟩
      obtain ⟨ad, rfl, hx⟩ := Kd.at_int (HR.out _ HB.out) (j : Int) (by omega) (by omega)
      have t1 : decide ((j : Int) < (l.length : Int)) = true := decide_eq_true (by omega)
      have t2 : ((j : Int)).toNat = j := by omega
      rw [t2] at hx
      have c3 := HD.out.c3
      have hxb := HBY.out (rd l j) (by unfold rd; rw [List.getD_eq_getElem?_getD, t2, List.getElem?_eq_getElem hlt]; exact List.getElem_mem hlt)
      obtain ⟨xj, hxj⟩ : ∃ x : Int, x = rd l j := ⟨_, rfl⟩
      rw [← hxj] at hx hxb
      have XJ := Aside0.mk hxj
      have hyl : y.length = j := by rw [HY.out, List.length_take]; omega
      have HYL := Aside0.mk hyl
      have HLT := Aside0.mk hlt
      have x0 := hxb.1
      have x1 := hxb.2
      obtain ⟨y2, hy2⟩ : ∃ y2 : List Int, y2 = y ++ [xj] := ⟨_, rfl⟩
      have Y2 := Aside0.mk hy2
      clear hxj hyl hxb t2 hy2
      go_wp2_with (first | ((with_reducible refine gate_builtin (b := .append) (xs := #[.tmp 16, .tmp 19]) rfl ?_); at_builtin; refine Kd.R_append (Kd.int .i32) (w0 := wr) (g + 1) rfl (.tmp 16) (.tmp 19) 27 37 (.int .i32 0) 4 rfl Tryd.underlying27 info_cell rfl (by decide) (by omega) (.slice A2 y.length c2) y xj [.int .i32 xj] (fun _ => True) (fun _ => False) rfl rfl rfl (fun _ hk => hk.elim) (fun _ _ => trivial) HV.out (Below.refl _ _) HD.out.lt ?aL ?_; (case aL => have := HYL.out; have := HLT.out; have := HL.out; omega); intro v1 w2 ho hb _ _; rw [← Y2.out] at ho; have HO := Aside0.mk ho; have HB2 := Aside0.mk hb; clear ho hb; obtain ⟨A3, c3', rfl⟩ := Kd.R_slice HO.out; have HD2 := Aside0.mk (HD.out.of (HB2.out.block g (Nat.lt_succ_self g))); have d3 := HD2.out.c3; have f3 := HD2.out.f 3))
      go_roundg k1
      case measure => omega
      case rel =>
        refine ⟨j + 1, y2, _, by (have h1 := HL.out; have h2 := HLT.out; congr 1; unfold wrap64; omega), ⟨by have := HK.out; omega⟩, ⟨by rw [take_rd l j HLT.out, Y2.out, HY.out, XJ.out]⟩, ⟨HD2.out.set3 _⟩, ⟨?_⟩, ⟨?_⟩⟩
        · exact Kd.R_mono (Kd.R_far (Kd.R_bound HO.out) (p := ⟨g, 3, none⟩) (fun k hk => by have := hk.2.1; show k ≠ g; omega) _) (fun _ _ => trivial)
        · exact (HB.out.trans (HB2.out.mono (Nat.le_succ g))).setCell (Nat.le_refl g) _
    · have t1 : decide ((j : Int) < (l.length : Int)) = false := decide_eq_false (by omega)
      have hy : y = l := by rw [HY.out]; exact List.take_of_length_le (by omega)
      have HY2 := Aside0.mk hy
      clear hy
      go_wp2
      go_end0
      exact ⟨rfl, _, HD.out, HY2.out ▸ HV.out, HB.out⟩
#print axioms decode1_calls
#print axioms ways1_calls
end Go.Proofs.YtcofbakhhcgbfaaDoor.EC
