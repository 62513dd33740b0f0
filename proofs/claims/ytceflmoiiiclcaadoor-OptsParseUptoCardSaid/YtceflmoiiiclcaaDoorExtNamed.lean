/- redactor/codec.Named at every string: the number that the plain function 'codec_Named.f' says, in whatever order the map of encodings is walked. No conditions. -/
import Derived.Test.YtceflmoiiiclcaaDoorExtWays
import Derived.Laws.IdiomRangeMap
import Derived.Laws.EntriesVeiled
import Derived.Test.YtceflmoiiiclcaaDoorWLast
import Derived.Test.YtceflmoiiiclcaaDoorWMore
namespace Go.Proofs.YtceflmoiiiclcaaDoor.PX
open Go.RowKit Go.Proofs.YtceflmoiiiclcaaDoorW.PrintWords Go.Proofs.YtceflmoiiiclcaaDoorW.PrintLast Go.Proofs.YtceflmoiiiclcaaDoorW.PrintMore
open EC
set_option linter.unusedVariables false

/-- 'next' where the iterator lies anywhere. -/
theorem next_any {P : Program} (W : World) (ty : TypeId) (it bm since c0 : Nat) (seen : Array Nat) (es : Array MapEntry) (clock : Nat) (hit : W.heap[it]? = some (.mapIter (some bm) since seen c0)) (hb : W.heap[bm]? = some (.map es clock))
    (hold : ∀ x ∈ es.toList, x.born < since) (hsc : since ≤ c0) :
    ((leftOf es seen).size = 0 ∧ (Instr.next (.pointer (some ⟨it, 0, none⟩)) false ty).run P W = .ok (.tuple #[.bool false]) W) ∨
    ∃ e ∈ (leftOf es seen).toList, ∃ w1 : World, w1.heap = W.heap.setIfInBounds it (.mapIter (some bm) since (seen.push e.born) clock) ∧ w1.os = W.os ∧ w1.tape = W.tape ∧ w1.output = W.output ∧
      (Instr.next (.pointer (some ⟨it, 0, none⟩)) false ty).run P W = .ok (.tuple #[.bool true, e.key, e.val]) w1 := by
  simp only [Instr.next, getObj, Sem.run_bind, Sem.run, hit, hb, Result.andThen, next_test_false seen es since c0 hold hsc, Bool.false_eq_true, if_false]
  unfold leftOf
  have hmem : ∀ x ∈ (Array.filter (fun e => !seen.contains e.born) es).toList, x.born < since := fun x hx => hold x (by simp at hx ⊢; exact hx.1)
  generalize Array.filter (fun e => !seen.contains e.born) es = L at hmem ⊢
  have e1 : L.filter (fun x => decide (x.born < since)) = L := Array.filter_eq_self.2 (fun x hx => by simpa using hmem x (by simpa using hx))
  have e2 : L.filter (fun x => decide (x.born ≥ since)) = #[] := by
    rw [Array.filter_eq_empty_iff]
    intro x hx
    have := hmem x (by simpa using hx)
    simp
    omega
  simp only [e1, e2, Array.append_empty]
  by_cases h0 : L.size = 0
  · left
    have : L = #[] := Array.eq_empty_of_size_eq_zero h0
    subst this
    refine ⟨rfl, ?_⟩
    simp [choose, Sem.run, Question.forced]
  · right
    have hne : L.isEmpty = false := by simp [Array.isEmpty, h0]
    simp only [hne, Bool.false_eq_true, if_false, Array.empty_append, Array.size_map]
    have hch : ∃ (j : Nat) (w1 : World), j < L.size ∧ (w1.heap = W.heap ∧ w1.os = W.os ∧ w1.tape = W.tape ∧ w1.output = W.output) ∧ (choose (Question.mapNext L.size)).run P W = .ok j w1 := by
      by_cases hf : L.size ≤ 1
      · exact ⟨0, W, by omega, ⟨rfl, rfl, rfl, rfl⟩, by simp [choose, Sem.run, Question.forced, hf]⟩
      · exact ⟨_, W.drew, Nat.mod_lt _ (by omega), ⟨rfl, rfl, rfl, rfl⟩, by
          simp only [choose, Sem.run, Question.forced, decide_eq_true_eq, hf, if_false, Question.cut]
          rfl⟩
    obtain ⟨j, w1, hj, ⟨q1, q2, q3, q4⟩, hrun⟩ := hch
    refine ⟨L[j], by simp, { w1 with heap := W.heap.setIfInBounds it (.mapIter (some bm) since (seen.push L[j].born) clock) }, rfl, q2, q3, q4, ?_⟩
    have hset : ∀ (o' : Obj), (setObj it o').run P w1 = .ok () { w1 with heap := W.heap.setIfInBounds it o' } := fun o' => by
      simp only [setObj, Sem.run, q1, hit]
    simp only [hrun, Array.getElem?_map, Array.getElem?_eq_getElem hj, Option.map_some, Sem.run_bind, hset, Result.andThen]
    rfl

theorem entry_any {P : Program} (W : World) (it bm since : Nat) (seen : Array Nat) (es : Array MapEntry) (clock : Nat) (e : MapEntry) (hit : W.heap[it]? = some (.mapIter (some bm) since (seen.push e.born) clock)) (hb : W.heap[bm]? = some (.map es clock)) (he : e ∈ es.toList) (hn : (es.toList.map (·.born)).Nodup) :
    (Instr.entry (.pointer (some ⟨it, 0, none⟩))).run P W = .ok (.tuple #[e.key, e.val]) W := by
  have hf : es.find? (·.born == e.born) = some e := by rw [← Array.find?_toList]; exact find_born e es.toList hn he
  simp only [Instr.entry, getObj, Sem.run_bind, Sem.run, hit, hb, Result.andThen, Array.back?_push, bne_self_eq_false, Bool.false_eq_true, if_false, hf]
  rfl

def n1 : ByteArray := ⟨#[117, 116, 102, 45, 56]⟩
def n2 : ByteArray := ⟨#[117, 116, 102, 45, 49, 54]⟩
def n3 : ByteArray := ⟨#[108, 97, 116, 105, 110, 49]⟩
def named (s : ByteArray) : Int := if s = n1 then 1 else if s = n2 then 2 else if s = n3 then 3 else 0
def codec_Named.f (a0 : ByteArray) : Option Int := some (named a0)

theorem ne_list (s : ByteArray) (l : List UInt8) (h : ¬ s = ByteArray.mk l.toArray) : (l == s.toList) = false := by
  rw [beq_eq_false_iff_ne]
  intro q
  apply h
  rw [q, ByteArray.toList_eq]
theorem named_1 (s : ByteArray) (h : s = n1) : named s = 1 := by unfold named; rw [if_pos h]
theorem named_2 (s : ByteArray) (h : s = n2) : named s = 2 := by subst h; decide
theorem named_3 (s : ByteArray) (h : s = n3) : named s = 3 := by subst h; decide
/-- What has been seen is not the name sought. -/
def Past (seen : Array Nat) (s : ByteArray) : Prop := (seen.contains 0 = true → s ≠ n1) ∧ (seen.contains 1 = true → s ≠ n2) ∧ (seen.contains 2 = true → s ≠ n3)
theorem past_push (seen : Array Nat) (s : ByteArray) (h : Past seen s) (b : Nat) (hb : (b = 0 → s ≠ n1) ∧ (b = 1 → s ≠ n2) ∧ (b = 2 → s ≠ n3)) : Past (seen.push b) s := by
  unfold Past at h ⊢
  simp only [contains_push, Bool.or_eq_true, beq_iff_eq]
  refine ⟨fun q => ?_, fun q => ?_, fun q => ?_⟩
  · rcases q with q | q; exact h.1 q; exact hb.1 q.symm
  · rcases q with q | q; exact h.2.1 q; exact hb.2.1 q.symm
  · rcases q with q | q; exact h.2.2 q; exact hb.2.2 q.symm
theorem past_end (seen : Array Nat) (s : ByteArray) (h : Past seen s) (h0 : (leftOf entries seen).size = 0) : named s = 0 := by
  have h1 : leftOf entries seen = #[] := Array.eq_empty_of_size_eq_zero h0
  unfold leftOf at h1
  rw [Array.filter_eq_empty_iff] at h1
  have a := h1 { key := .int .u8 1, val := w1, born := 0 } (by simp [entries])
  have b := h1 { key := .int .u8 2, val := w2, born := 1 } (by simp [entries])
  have c := h1 { key := .int .u8 3, val := w3, born := 2 } (by simp [entries])
  have g1 := h.1 (by simpa using a)
  have g2 := h.2.1 (by simpa using b)
  have g3 := h.2.2 (by simpa using c)
  unfold named
  rw [if_neg g1, if_neg g2, if_neg g3]
theorem left_mem (seen : Array Nat) (e : MapEntry) (he : e ∈ (leftOf entries seen).toList) : e = { key := .int .u8 1, val := w1, born := 0 } ∨ e = { key := .int .u8 2, val := w2, born := 1 } ∨ e = { key := .int .u8 3, val := w3, born := 2 } := by
  have := (mem_left he).1
  simpa [entries] using this

/-- The world of a round. -/
structure Rd (w wr : World) (seen : Array Nat) : Prop where
  it : wr.heap[w.heap.size + 1]? = some (.mapIter (some w.heap.size) 3 seen 3)
  mp : wr.heap[w.heap.size]? = some (.map entries 3)
  below : Below w.heap.size w wr
theorem rd_start (w : World) : Rd w ((w.alloc (.map entries 3)).alloc (.mapIter (some w.heap.size) 3 #[] 3)) #[] := by
  have at_ : ∀ (W : World) (o : Obj), (W.alloc o).heap[W.heap.size]? = some o := fun W o => by show (W.heap.push o)[W.heap.size]? = _; simp
  have s1 : (w.alloc (.map entries 3)).heap.size = w.heap.size + 1 := Array.size_push _
  refine ⟨by rw [← s1]; exact at_ _ _, by rw [Below.heap_alloc _ _ _ (by omega)]; exact at_ _ _, ((Below.refl _ _).alloc (Nat.le_refl _) _).alloc (by omega) _⟩
theorem rd_next {w wr w1 : World} {seen : Array Nat} {b : Nat} (h : Rd w wr seen) (hh : w1.heap = wr.heap.setIfInBounds (w.heap.size + 1) (.mapIter (some w.heap.size) 3 (seen.push b) 3)) (ho : w1.os = wr.os) (ht : w1.tape = wr.tape) (hp : w1.output = wr.output) : Rd w w1 (seen.push b) := by
  have hlt : w.heap.size + 1 < wr.heap.size := (Array.getElem?_eq_some_iff.1 h.it).1
  refine ⟨by rw [hh, Array.getElem?_setIfInBounds]; simp [hlt], by rw [hh, Array.getElem?_setIfInBounds_ne (by omega)]; exact h.mp, ?_⟩
  refine ⟨ho.trans h.below.os, ht.trans h.below.tape, hp.trans h.below.output, by rw [hh]; simp; omega, fun k hk => by rw [hh, Array.getElem?_setIfInBounds_ne (by omega)]; exact h.below.block k hk⟩
theorem rd_alloc {w wr : World} {seen : Array Nat} (h : Rd w wr seen) (o : Obj) : Rd w (wr.alloc o) seen := by
  have hlt : w.heap.size + 1 < wr.heap.size := (Array.getElem?_eq_some_iff.1 h.it).1
  exact ⟨by rw [Below.heap_alloc _ _ _ hlt]; exact h.it, by rw [Below.heap_alloc _ _ _ (by omega)]; exact h.mp, h.below.alloc (by omega) o⟩

set_option maxHeartbeats 4000000 in
set_option maxRecDepth 100000 in
theorem codec_Named.calls (a0 : ByteArray) (r : Int) (w : World) (h : codec_Named.f a0 = some r) :
    Calls Tryd.prog 38 #[.string a0] w fun e w' => e = .returned (.int .u8 r) ∧ Below w.heap.size w w' := by
  have H := Aside0.mk (Option.some.inj h : named a0 = r)
  clear h
  have hr := run_range_map (P := Tryd.prog) (w.alloc (.map entries 3)) 84 _ _ w.heap.size entries 3 Tryd.underlying84 (by show (w.heap.push _)[w.heap.size]? = _; simp)
  go_enter Tryd.func38, Tryd.ntmps38
  go_wp2_with (go_at_call 46; refine (ways_calls _).mono ?_; rintro e w1 ⟨rfl, rfl⟩)
  go_loopg [] ((leftOf entries #[]).size + 1) (fun kq wr => ∃ seen : Array Nat, Aside0 ((leftOf entries seen).size + 1 ≤ kq) ∧ Aside0 (Rd w wr seen) ∧ Aside0 (Past seen a0))
  case atStart => exact ⟨#[], ⟨Nat.le_refl _⟩, ⟨rd_start w⟩, ⟨by unfold Past; simp⟩⟩
  case round =>
    obtain ⟨seen, HK, HR, HP⟩ := hrel
    rcases next_any (P := Tryd.prog) wr 0 (w.heap.size + 1) w.heap.size 3 3 seen entries 3 HR.out.it HR.out.mp (by simp [entries]) (Nat.le_refl _) with ⟨h0, hn⟩ | ⟨e, he, w1, hh, ho, ht, hp, hn⟩
    · have R0 := Aside0.mk (past_end seen a0 HP.out h0)
      clear h0 hr
      go_wp2
      go_ret
      exact ⟨by rw [← H.out, R0.out]; rfl, HR.out.below⟩
    · have HD := Aside0.mk (rd_next (b := e.born) HR.out hh ho ht hp)
      have HS := Aside0.mk (left_shrinks entries seen e he)
      obtain ⟨k1, rfl⟩ : ∃ m, gk = m + 1 := ⟨gk - 1, by have := HK.out; omega⟩
      have hen := entry_any (P := Tryd.prog) w1 (w.heap.size + 1) w.heap.size 3 seen entries 3 e HD.out.it HD.out.mp (mem_left he).1 (by simp [entries])
      rcases left_mem seen e he with rfl | rfl | rfl
      · simp only [EC.w1] at hn hen
        clear hh ho ht hp hr he
        by_cases hs : a0 = n1
        · have HN := Aside0.mk (named_1 a0 hs)
          unfold n1 at hs
          subst hs
          go_wp2
          go_ret
          exact ⟨by rw [← H.out, HN.out]; rfl, (rd_alloc HD.out _).below⟩
        · have HN := Aside0.mk (past_push seen a0 HP.out 0 ⟨fun q => by first | exact hs | (cases q; done), fun q => by first | exact hs | (cases q; done), fun q => by first | exact hs | (cases q; done)⟩)
          unfold n1 at hs
          have s1 := ne_list a0 [117, 116, 102, 45, 56] hs
          go_wp2
          go_roundg k1
          case measure => omega
          case rel => exact ⟨seen.push 0, ⟨by have h1 := HK.out; have h2 := HS.out; omega⟩, ⟨rd_alloc HD.out _⟩, HN⟩
      · simp only [EC.w2] at hn hen
        clear hh ho ht hp hr he
        by_cases hs : a0 = n2
        · have HN := Aside0.mk (named_2 a0 hs)
          unfold n2 at hs
          subst hs
          go_wp2
          go_ret
          exact ⟨by rw [← H.out, HN.out]; rfl, (rd_alloc HD.out _).below⟩
        · have HN := Aside0.mk (past_push seen a0 HP.out 1 ⟨fun q => by first | exact hs | (cases q; done), fun q => by first | exact hs | (cases q; done), fun q => by first | exact hs | (cases q; done)⟩)
          unfold n2 at hs
          have s1 := ne_list a0 [117, 116, 102, 45, 49, 54] hs
          go_wp2
          go_roundg k1
          case measure => omega
          case rel => exact ⟨seen.push 1, ⟨by have h1 := HK.out; have h2 := HS.out; omega⟩, ⟨rd_alloc HD.out _⟩, HN⟩
      · simp only [EC.w3] at hn hen
        clear hh ho ht hp hr he
        by_cases hs : a0 = n3
        · have HN := Aside0.mk (named_3 a0 hs)
          unfold n3 at hs
          subst hs
          go_wp2
          go_ret
          exact ⟨by rw [← H.out, HN.out]; rfl, (rd_alloc HD.out _).below⟩
        · have HN := Aside0.mk (past_push seen a0 HP.out 2 ⟨fun q => by first | exact hs | (cases q; done), fun q => by first | exact hs | (cases q; done), fun q => by first | exact hs | (cases q; done)⟩)
          unfold n3 at hs
          have s1 := ne_list a0 [108, 97, 116, 105, 110, 49] hs
          go_wp2
          go_roundg k1
          case measure => omega
          case rel => exact ⟨seen.push 2, ⟨by have h1 := HK.out; have h2 := HS.out; omega⟩, ⟨rd_alloc HD.out _⟩, HN⟩
#print axioms codec_Named.calls
end Go.Proofs.YtceflmoiiiclcaaDoor.PX
