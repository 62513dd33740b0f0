/- opts: the reader behind a pointer, the maps of its letters and words that a call makes, and what a look-up in them gives. No conditions. -/
import Derived.Test.YtceflmoiiiclcaaDoorWWords
import Derived.Test.YtceflmoiiiclcaaDoorWLast
import Derived.Test.YtceflmoiiiclcaaDoorWMore
import Derived.Test.YtceflmoiiiclcaaDoorProg
import Derived.WideMake
import Derived.WalkKit
import Derived.KernelRfl
namespace Go.Proofs.YtceflmoiiiclcaaDoor.EC
open Go.RowKit Go.Proofs.YtceflmoiiiclcaaDoorW.PrintWords
set_option maxRecDepth 100000
set_option linter.unusedVariables false

/-- What the letters have set so far. -/
structure St where
  q : Bool
  x : Bool
  a : Bool
  i : Bool
  en : Int
  lo : ByteArray
/-- The reader in block g: files fv, fragments fr. -/
def RdAt (W : World) (g : Nat) (s : St) (fv fr : Value) : Prop := W.heap[g]? = some (.cells #[.bool s.q, .bool s.x, .bool s.a, .bool s.i, .string ⟨#[]⟩, .int .u8 s.en, .string s.lo, .slice none 0 0, fv, fr] 49 (0, 0))
section
variable {W W' : World} {g : Nat} {s : St} {fv fr : Value}
theorem RdAt.c0 (h : RdAt W g s fv fr) : W.cell? ⟨g, 0, none⟩ = some (.bool s.q) := by unfold RdAt at h; simp [World.cell?, h]
theorem RdAt.c1 (h : RdAt W g s fv fr) : W.cell? ⟨g, 1, none⟩ = some (.bool s.x) := by unfold RdAt at h; simp [World.cell?, h]
theorem RdAt.c2 (h : RdAt W g s fv fr) : W.cell? ⟨g, 2, none⟩ = some (.bool s.a) := by unfold RdAt at h; simp [World.cell?, h]
theorem RdAt.c3 (h : RdAt W g s fv fr) : W.cell? ⟨g, 3, none⟩ = some (.bool s.i) := by unfold RdAt at h; simp [World.cell?, h]
theorem RdAt.c4 (h : RdAt W g s fv fr) : W.cell? ⟨g, 4, none⟩ = some (.string ⟨#[]⟩) := by unfold RdAt at h; simp [World.cell?, h]
theorem RdAt.c5 (h : RdAt W g s fv fr) : W.cell? ⟨g, 5, none⟩ = some (.int .u8 s.en) := by unfold RdAt at h; simp [World.cell?, h]
theorem RdAt.c6 (h : RdAt W g s fv fr) : W.cell? ⟨g, 6, none⟩ = some (.string s.lo) := by unfold RdAt at h; simp [World.cell?, h]
theorem RdAt.c7 (h : RdAt W g s fv fr) : W.cell? ⟨g, 7, none⟩ = some (.slice none 0 0) := by unfold RdAt at h; simp [World.cell?, h]
theorem RdAt.c8 (h : RdAt W g s fv fr) : W.cell? ⟨g, 8, none⟩ = some fv := by unfold RdAt at h; simp [World.cell?, h]
theorem RdAt.c9 (h : RdAt W g s fv fr) : W.cell? ⟨g, 9, none⟩ = some fr := by unfold RdAt at h; simp [World.cell?, h]
theorem RdAt.f (h : RdAt W g s fv fr) (i : Nat) : W.frozen? ⟨g, i, none⟩ = false := by unfold RdAt at h; simp [World.frozen?, h]
theorem RdAt.lt (h : RdAt W g s fv fr) : g < W.heap.size := (Array.getElem?_eq_some_iff.1 h).1
theorem RdAt.of (h : RdAt W g s fv fr) (hW : W'.heap[g]? = W.heap[g]?) : RdAt W' g s fv fr := hW.trans h
theorem RdAt.below (h : RdAt W g s fv fr) (hb : Below W.heap.size W W') : RdAt W' g s fv fr := h.of (hb.block g h.lt)
theorem RdAt.set0 (h : RdAt W g s fv fr) (x : Bool) : RdAt (W.setCell ⟨g, 0, none⟩ (.bool x)) g { s with q := x } fv fr := Go.heap_setCell_same W g 0 _ _ _ h
theorem RdAt.set1 (h : RdAt W g s fv fr) (x : Bool) : RdAt (W.setCell ⟨g, 1, none⟩ (.bool x)) g { s with x := x } fv fr := Go.heap_setCell_same W g 1 _ _ _ h
theorem RdAt.set2 (h : RdAt W g s fv fr) (x : Bool) : RdAt (W.setCell ⟨g, 2, none⟩ (.bool x)) g { s with a := x } fv fr := Go.heap_setCell_same W g 2 _ _ _ h
theorem RdAt.set3 (h : RdAt W g s fv fr) (x : Bool) : RdAt (W.setCell ⟨g, 3, none⟩ (.bool x)) g { s with i := x } fv fr := Go.heap_setCell_same W g 3 _ _ _ h
theorem RdAt.set5 (h : RdAt W g s fv fr) (x : Int) : RdAt (W.setCell ⟨g, 5, none⟩ (.int .u8 x)) g { s with en := x } fv fr := Go.heap_setCell_same W g 5 _ _ _ h
theorem RdAt.set6 (h : RdAt W g s fv fr) (x : ByteArray) : RdAt (W.setCell ⟨g, 6, none⟩ (.string x)) g { s with lo := x } fv fr := Go.heap_setCell_same W g 6 _ _ _ h
theorem RdAt.set9 (h : RdAt W g s fv fr) (x : Value) : RdAt (W.setCell ⟨g, 9, none⟩ x) g s fv x := Go.heap_setCell_same W g 9 _ _ _ h
end

theorem alloc_turned (W : World) (o o' : Obj) : ({ W.alloc o with heap := (W.alloc o).heap.setIfInBounds W.heap.size o' } : World) = W.alloc o' := by
  have e : (W.heap.push o).setIfInBounds W.heap.size o' = W.heap.push o' := by
    apply Array.toList_inj.1
    rw [Array.toList_setIfInBounds, Array.toList_push, Array.toList_push, List.set_append_right _ _ (by simp)]
    simp
  show ({ W with heap := (W.heap.push o).setIfInBounds W.heap.size o' } : World) = { W with heap := W.heap.push o' }
  rw [e]
theorem updM (mt vt : TypeId) (hu : Tryd.prog.underlying mt = some (.map 5 vt)) (W : World) (es : Array MapEntry) (c : Nat) (k : Int) (v : Value) (hf : Instr.findNow (.int .u8) (.int .u8 k) es.toList 0 = some none) :
    (Instr.mapUpdate mt (.map (some W.heap.size)) (.int .u8 k) v).run Tryd.prog (W.alloc (.map es c)) = .ok () (W.alloc (.map (es.push { key := .int .u8 k, val := v, born := c }) (c + 1))) := by
  have hb : (W.alloc (.map es c)).heap[W.heap.size]? = some (.map es c) := by
    show (W.heap.push _)[W.heap.size]? = _
    simp
  have hc : (Instr.checkKey false 10000 5 (.int .u8 k)).run Tryd.prog (W.alloc (.map es c)) = .ok () (W.alloc (.map es c)) := MapKept.run_checkKey Tryd.underlying5 (by simp [MapKept.IsKey]) false 9999
  simp [Instr.mapUpdate, run_underlying hu, MapKept.run_getObj_map hb, hc, MapKept.run_findKey Tryd.underlying5 hf, MapKept.run_setObj_map _ hb, Result.andThen]
  exact alloc_turned _ _ _

def ent4 (k1 k2 k3 k4 : Int) (v1 v2 v3 v4 : Value) : Array MapEntry := #[{ key := .int .u8 k1, val := v1, born := 0 }, { key := .int .u8 k2, val := v2, born := 1 }, { key := .int .u8 k3, val := v3, born := 2 }, { key := .int .u8 k4, val := v4, born := 3 }]
/-- The letters' map; b holds the pointer. -/
def fent (b : Nat) : Array MapEntry := ent4 110 69 115 105 (.func (.func 31) #[] #[.pointer (some ⟨b, 0, none⟩)]) (.func (.func 32) #[] #[.pointer (some ⟨b, 0, none⟩)]) (.func (.func 33) #[] #[.pointer (some ⟨b, 0, none⟩)]) (.func (.func 34) #[] #[.pointer (some ⟨b, 0, none⟩)])
/-- The words' map. -/
def went (b g : Nat) : Array MapEntry := ent4 101 102 99 76 (.func (.func 35) #[] #[.pointer (some ⟨b, 0, none⟩)]) (.func (.func 36) #[.pointer (some ⟨g, 0, none⟩)] #[]) (.func (.func 37) #[] #[.pointer (some ⟨b, 0, none⟩)]) (.func (.func 39) #[] #[.pointer (some ⟨b, 0, none⟩)])

theorem flags_calls (w : World) (g : Nat) : Calls Tryd.prog 24 #[.pointer (some ⟨g, 0, none⟩)] w fun e w' => e = .returned (.map (some (w.heap.size + 1))) ∧ w' = (w.alloc (.cells #[.pointer (some ⟨g, 0, none⟩)] 47)).alloc (.map (fent w.heap.size) 4) := by
  have hmm := @run_makeMap Tryd.prog
  have hs : (w.alloc (.cells #[.pointer (some ⟨g, 0, none⟩)] 47)).heap.size = w.heap.size + 1 := Array.size_push _
  have u1 := updM 58 1 Tryd.underlying58 (w.alloc (.cells #[.pointer (some ⟨g, 0, none⟩)] 47)) #[] 0 110 (.func (.func 31) #[] #[.pointer (some ⟨w.heap.size, 0, none⟩)]) rfl
  have u2 := updM 58 1 Tryd.underlying58 (w.alloc (.cells #[.pointer (some ⟨g, 0, none⟩)] 47)) #[{ key := .int .u8 110, val := (.func (.func 31) #[] #[.pointer (some ⟨w.heap.size, 0, none⟩)]), born := 0 }] 1 69 (.func (.func 32) #[] #[.pointer (some ⟨w.heap.size, 0, none⟩)]) rfl
  have u3 := updM 58 1 Tryd.underlying58 (w.alloc (.cells #[.pointer (some ⟨g, 0, none⟩)] 47)) #[{ key := .int .u8 110, val := (.func (.func 31) #[] #[.pointer (some ⟨w.heap.size, 0, none⟩)]), born := 0 }, { key := .int .u8 69, val := (.func (.func 32) #[] #[.pointer (some ⟨w.heap.size, 0, none⟩)]), born := 1 }] 2 115 (.func (.func 33) #[] #[.pointer (some ⟨w.heap.size, 0, none⟩)]) rfl
  have u4 := updM 58 1 Tryd.underlying58 (w.alloc (.cells #[.pointer (some ⟨g, 0, none⟩)] 47)) #[{ key := .int .u8 110, val := (.func (.func 31) #[] #[.pointer (some ⟨w.heap.size, 0, none⟩)]), born := 0 }, { key := .int .u8 69, val := (.func (.func 32) #[] #[.pointer (some ⟨w.heap.size, 0, none⟩)]), born := 1 }, { key := .int .u8 115, val := (.func (.func 33) #[] #[.pointer (some ⟨w.heap.size, 0, none⟩)]), born := 2 }] 3 105 (.func (.func 34) #[] #[.pointer (some ⟨w.heap.size, 0, none⟩)]) rfl
  rw [hs] at u1 u2 u3 u4
  simp only [List.push_toArray, List.cons_append, List.nil_append] at u1 u2 u3 u4
  go_enter Tryd.func24, Tryd.ntmps24
  go_wp2
  go_ret
  exact ⟨rfl, by unfold fent ent4; rfl⟩
theorem words_calls (w : World) (g : Nat) : Calls Tryd.prog 25 #[.pointer (some ⟨g, 0, none⟩)] w fun e w' => e = .returned (.map (some (w.heap.size + 1))) ∧ w' = (w.alloc (.cells #[.pointer (some ⟨g, 0, none⟩)] 47)).alloc (.map (went w.heap.size g) 4) := by
  have hmm := @run_makeMap Tryd.prog
  have hs : (w.alloc (.cells #[.pointer (some ⟨g, 0, none⟩)] 47)).heap.size = w.heap.size + 1 := Array.size_push _
  have u1 := updM 62 60 Tryd.underlying62 (w.alloc (.cells #[.pointer (some ⟨g, 0, none⟩)] 47)) #[] 0 101 (.func (.func 35) #[] #[.pointer (some ⟨w.heap.size, 0, none⟩)]) rfl
  have u2 := updM 62 60 Tryd.underlying62 (w.alloc (.cells #[.pointer (some ⟨g, 0, none⟩)] 47)) #[{ key := .int .u8 101, val := (.func (.func 35) #[] #[.pointer (some ⟨w.heap.size, 0, none⟩)]), born := 0 }] 1 102 (.func (.func 36) #[.pointer (some ⟨g, 0, none⟩)] #[]) rfl
  have u3 := updM 62 60 Tryd.underlying62 (w.alloc (.cells #[.pointer (some ⟨g, 0, none⟩)] 47)) #[{ key := .int .u8 101, val := (.func (.func 35) #[] #[.pointer (some ⟨w.heap.size, 0, none⟩)]), born := 0 }, { key := .int .u8 102, val := (.func (.func 36) #[.pointer (some ⟨g, 0, none⟩)] #[]), born := 1 }] 2 99 (.func (.func 37) #[] #[.pointer (some ⟨w.heap.size, 0, none⟩)]) rfl
  have u4 := updM 62 60 Tryd.underlying62 (w.alloc (.cells #[.pointer (some ⟨g, 0, none⟩)] 47)) #[{ key := .int .u8 101, val := (.func (.func 35) #[] #[.pointer (some ⟨w.heap.size, 0, none⟩)]), born := 0 }, { key := .int .u8 102, val := (.func (.func 36) #[.pointer (some ⟨g, 0, none⟩)] #[]), born := 1 }, { key := .int .u8 99, val := (.func (.func 37) #[] #[.pointer (some ⟨w.heap.size, 0, none⟩)]), born := 2 }] 3 76 (.func (.func 39) #[] #[.pointer (some ⟨w.heap.size, 0, none⟩)]) rfl
  rw [hs] at u1 u2 u3 u4
  simp only [List.push_toArray, List.cons_append, List.nil_append] at u1 u2 u3 u4
  go_enter Tryd.func25, Tryd.ntmps25
  go_wp2
  go_ret
  exact ⟨rfl, by unfold went ent4; rfl⟩

theorem lookM (mt vt : TypeId) (hu : Tryd.prog.underlying mt = some (.map 5 vt)) (W : World) (hz : (zeroValue vt).run Tryd.prog W = .ok .nilFunc W) (m : Nat) (es : Array MapEntry) (c : Nat) (hb : W.heap[m]? = some (.map es c)) (k : Int) (r : Option (Nat × Value)) (hf : Instr.findNow (.int .u8) (.int .u8 k) es.toList 0 = some r) :
    (Instr.lookup mt (.map (some m)) (.int .u8 k) true).run Tryd.prog W = .ok (.tuple #[(r.map (·.2)).getD .nilFunc, .bool r.isSome]) W := by
  have hc : (Instr.checkKey es.isEmpty 10000 5 (.int .u8 k)).run Tryd.prog W = .ok () W := MapKept.run_checkKey Tryd.underlying5 (by simp [MapKept.IsKey]) _ 9999
  cases r with
  | none => simp [Instr.lookup, run_underlying hu, MapKept.run_getObj_map hb, hc, MapKept.run_findKey Tryd.underlying5 hf, Result.andThen, hz]
  | some p =>
    obtain ⟨i, v⟩ := p
    simp [Instr.lookup, run_underlying hu, MapKept.run_getObj_map hb, hc, MapKept.run_findKey Tryd.underlying5 hf, Result.andThen]
theorem zero1 (W : World) : (zeroValue 1).run Tryd.prog W = .ok .nilFunc W := by kernel_rfl
theorem zero60 (W : World) : (zeroValue 60).run Tryd.prog W = .ok .nilFunc W := by kernel_rfl
/-- What is found under a key. -/
def at4 (k1 k2 k3 k4 : Int) (v1 v2 v3 v4 : Value) (k : Int) : Option (Nat × Value) := if k = k1 then some (0, v1) else if k = k2 then some (1, v2) else if k = k3 then some (2, v3) else if k = k4 then some (3, v4) else none
theorem find4 (k1 k2 k3 k4 : Int) (v1 v2 v3 v4 : Value) (k : Int) : Instr.findNow (.int .u8) (.int .u8 k) (ent4 k1 k2 k3 k4 v1 v2 v3 v4).toList 0 = some (at4 k1 k2 k3 k4 v1 v2 v3 v4 k) := by
  unfold at4 ent4
  simp only [Instr.findNow, Instr.sameNow]
  by_cases h1 : k = k1
  · subst h1; simp
  · have e1 : (k == k1) = false := beq_eq_false_iff_ne.2 h1
    rw [if_neg h1]
    simp only [e1]
    by_cases h2 : k = k2
    · subst h2; simp
    · have e2 : (k == k2) = false := beq_eq_false_iff_ne.2 h2
      rw [if_neg h2]
      simp only [e2]
      by_cases h3 : k = k3
      · subst h3; simp
      · have e3 : (k == k3) = false := beq_eq_false_iff_ne.2 h3
        rw [if_neg h3]
        simp only [e3]
        by_cases h4 : k = k4
        · subst h4; simp
        · have e4 : (k == k4) = false := beq_eq_false_iff_ne.2 h4
          rw [if_neg h4]
          simp only [e4]
          rfl
theorem flook (W : World) (m b : Nat) (hb : W.heap[m]? = some (.map (fent b) 4)) (k : Int) : ∃ r, at4 110 69 115 105 (.func (.func 31) #[] #[.pointer (some ⟨b, 0, none⟩)]) (.func (.func 32) #[] #[.pointer (some ⟨b, 0, none⟩)]) (.func (.func 33) #[] #[.pointer (some ⟨b, 0, none⟩)]) (.func (.func 34) #[] #[.pointer (some ⟨b, 0, none⟩)]) k = r ∧ (Instr.lookup 58 (.map (some m)) (.int .u8 k) true).run Tryd.prog W = .ok (.tuple #[(r.map (·.2)).getD .nilFunc, .bool r.isSome]) W :=
  ⟨_, rfl, lookM 58 1 Tryd.underlying58 W (zero1 W) m _ 4 hb k _ (find4 _ _ _ _ _ _ _ _ k)⟩
theorem wlook (W : World) (m b g : Nat) (hb : W.heap[m]? = some (.map (went b g) 4)) (k : Int) : ∃ r, at4 101 102 99 76 (.func (.func 35) #[] #[.pointer (some ⟨b, 0, none⟩)]) (.func (.func 36) #[.pointer (some ⟨g, 0, none⟩)] #[]) (.func (.func 37) #[] #[.pointer (some ⟨b, 0, none⟩)]) (.func (.func 39) #[] #[.pointer (some ⟨b, 0, none⟩)]) k = r ∧ (Instr.lookup 62 (.map (some m)) (.int .u8 k) true).run Tryd.prog W = .ok (.tuple #[(r.map (·.2)).getD .nilFunc, .bool r.isSome]) W :=
  ⟨_, rfl, lookM 62 60 Tryd.underlying62 W (zero60 W) m _ 4 hb k _ (find4 _ _ _ _ _ _ _ _ k)⟩
#print axioms words_calls
#print axioms wlook
end Go.Proofs.YtceflmoiiiclcaaDoor.EC
