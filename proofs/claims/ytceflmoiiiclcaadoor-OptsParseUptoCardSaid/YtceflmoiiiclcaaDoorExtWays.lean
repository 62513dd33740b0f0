/- codec.ways: the map of encodings that a call makes, entry by entry, and what a look-up in it gives. No conditions. -/
import Derived.Test.YtceflmoiiiclcaaDoorWWords
import Derived.Test.YtceflmoiiiclcaaDoorProg
import Derived.WideMake
import Derived.WalkKit
import Derived.KernelRfl
namespace Go.Proofs.YtceflmoiiiclcaaDoor.EC
open Go.RowKit Go.Proofs.YtceflmoiiiclcaaDoorW.PrintWords
set_option maxRecDepth 100000
set_option linter.unusedVariables false

theorem alloc_turned (W : World) (o o' : Obj) : ({ W.alloc o with heap := (W.alloc o).heap.setIfInBounds W.heap.size o' } : World) = W.alloc o' := by
  have e : (W.heap.push o).setIfInBounds W.heap.size o' = W.heap.push o' := by
    apply Array.toList_inj.1
    rw [Array.toList_setIfInBounds, Array.toList_push, Array.toList_push, List.set_append_right _ _ (by simp)]
    simp
  show ({ W with heap := (W.heap.push o).setIfInBounds W.heap.size o' } : World) = { W with heap := W.heap.push o' }
  rw [e]
theorem upd (W : World) (es : Array MapEntry) (c : Nat) (k : Int) (v : Value) (hf : Instr.findNow (.int .u8) (.int .u8 k) es.toList 0 = some none) :
    (Instr.mapUpdate 84 (.map (some W.heap.size)) (.int .u8 k) v).run Tryd.prog (W.alloc (.map es c)) = .ok () (W.alloc (.map (es.push { key := .int .u8 k, val := v, born := c }) (c + 1))) := by
  have hb : (W.alloc (.map es c)).heap[W.heap.size]? = some (.map es c) := by
    show (W.heap.push _)[W.heap.size]? = _
    simp
  have hc : (Instr.checkKey false 10000 5 (.int .u8 k)).run Tryd.prog (W.alloc (.map es c)) = .ok () (W.alloc (.map es c)) := MapKept.run_checkKey Tryd.underlying5 (by simp [MapKept.IsKey]) false 9999
  simp [Instr.mapUpdate, run_underlying Tryd.underlying84, MapKept.run_getObj_map hb, hc, MapKept.run_findKey Tryd.underlying5 hf, MapKept.run_setObj_map _ hb, Result.andThen]
  exact alloc_turned _ _ _

def w1 : Value := .agg #[.string { data := #[117, 116, 102, 45, 56] }, .func (.func 52) #[] #[], .func (.func 54) #[] #[]]
def w2 : Value := .agg #[.string { data := #[117, 116, 102, 45, 49, 54] }, .func (.func 56) #[] #[], .func (.func 57) #[] #[]]
def w3 : Value := .agg #[.string { data := #[108, 97, 116, 105, 110, 49] }, .func (.func 58) #[] #[], .func (.func 59) #[] #[]]
def entries : Array MapEntry := #[{ key := .int .u8 1, val := w1, born := 0 }, { key := .int .u8 2, val := w2, born := 1 }, { key := .int .u8 3, val := w3, born := 2 }]

theorem ways_calls (w : World) : Calls Tryd.prog 46 #[] w fun e w' => e = .returned (.map (some w.heap.size)) ∧ w' = w.alloc (.map entries 3) := by
  have hmm := @run_makeMap Tryd.prog
  have u1 := upd w #[] 0 1 w1 rfl
  have u2 := upd w #[{ key := .int .u8 1, val := w1, born := 0 }] 1 2 w2 rfl
  have u3 := upd w #[{ key := .int .u8 1, val := w1, born := 0 }, { key := .int .u8 2, val := w2, born := 1 }] 2 3 w3 rfl
  unfold w1 at u1
  unfold w1 w2 at u2
  unfold w1 w2 w3 at u3
  simp only [List.push_toArray, List.cons_append, List.nil_append] at u1 u2 u3
  go_enter Tryd.func46, Tryd.ntmps46
  go_wp2
  go_ret
  exact ⟨rfl, by unfold entries w1 w2 w3; rfl⟩

theorem look (W : World) (m : Nat) (hb : W.heap[m]? = some (.map entries 3)) (k : Int) (r : Option (Nat × Value)) (hf : Instr.findNow (.int .u8) (.int .u8 k) entries.toList 0 = some r) (z : Value) (hz : (zeroValue 89).run Tryd.prog W = .ok z W) :
    (Instr.lookup 84 (.map (some m)) (.int .u8 k) true).run Tryd.prog W = .ok (.tuple #[(r.map (·.2)).getD z, .bool r.isSome]) W := by
  have hc : (Instr.checkKey entries.isEmpty 10000 5 (.int .u8 k)).run Tryd.prog W = .ok () W := MapKept.run_checkKey Tryd.underlying5 (by simp [MapKept.IsKey]) _ 9999
  cases r with
  | none => simp [Instr.lookup, run_underlying Tryd.underlying84, MapKept.run_getObj_map hb, hc, MapKept.run_findKey Tryd.underlying5 hf, Result.andThen, hz]
  | some p =>
    obtain ⟨i, v⟩ := p
    simp [Instr.lookup, run_underlying Tryd.underlying84, MapKept.run_getObj_map hb, hc, MapKept.run_findKey Tryd.underlying5 hf, Result.andThen]
theorem zero_way (W : World) : (zeroValue 89).run Tryd.prog W = .ok (.agg #[.string ⟨#[]⟩, .nilFunc, .nilFunc]) W := by kernel_rfl
theorem look1 (W : World) (m : Nat) (hb : W.heap[m]? = some (.map entries 3)) : (Instr.lookup 84 (.map (some m)) (.int .u8 1) true).run Tryd.prog W = .ok (.tuple #[w1, .bool true]) W := look W m hb 1 (some (0, w1)) rfl _ (zero_way W)
theorem look2 (W : World) (m : Nat) (hb : W.heap[m]? = some (.map entries 3)) : (Instr.lookup 84 (.map (some m)) (.int .u8 2) true).run Tryd.prog W = .ok (.tuple #[w2, .bool true]) W := look W m hb 2 (some (1, w2)) rfl _ (zero_way W)
theorem look3 (W : World) (m : Nat) (hb : W.heap[m]? = some (.map entries 3)) : (Instr.lookup 84 (.map (some m)) (.int .u8 3) true).run Tryd.prog W = .ok (.tuple #[w3, .bool true]) W := look W m hb 3 (some (2, w3)) rfl _ (zero_way W)
theorem look_no (W : World) (m : Nat) (hb : W.heap[m]? = some (.map entries 3)) (k : Int) (h1 : k ≠ 1) (h2 : k ≠ 2) (h3 : k ≠ 3) : (Instr.lookup 84 (.map (some m)) (.int .u8 k) true).run Tryd.prog W = .ok (.tuple #[.agg #[.string ⟨#[]⟩, .nilFunc, .nilFunc], .bool false]) W := by
  refine look W m hb k none ?_ _ (zero_way W)
  have e1 : (k == 1) = false := beq_eq_false_iff_ne.2 h1
  have e2 : (k == 2) = false := beq_eq_false_iff_ne.2 h2
  have e3 : (k == 3) = false := beq_eq_false_iff_ne.2 h3
  simp only [Instr.findNow, Instr.sameNow, entries, e1, e2, e3, if_true]
#print axioms ways_calls
#print axioms look_no
end Go.Proofs.YtceflmoiiiclcaaDoor.EC
