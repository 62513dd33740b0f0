/- opts.Print: it returns the arguments that the plain function 'printF' says. Conditions: the job's files stand in memory. -/
import Derived.Test.YtceflmoiiiclcaaDoorExtWord
namespace Go.Proofs.YtceflmoiiiclcaaDoor.EC
open Go.RowKit Go.Proofs.YtceflmoiiiclcaaDoorW.PrintWords Go.Proofs.YtceflmoiiiclcaaDoorW.PrintLast Go.Proofs.YtceflmoiiiclcaaDoorW.PrintMore
set_option linter.unusedVariables false
set_option linter.unusedSimpArgs false

/-- The box of the arguments so far. -/
def OutAt (W : World) (g : Nat) (v : Value) : Prop := W.heap[g]? = some (.cells #[v] 22 (0, 0))
theorem OutAt.c {W : World} {g : Nat} {v : Value} (h : OutAt W g v) : W.cell? ⟨g, 0, none⟩ = some v := by unfold OutAt at h; simp [World.cell?, h]
theorem OutAt.f {W : World} {g : Nat} {v : Value} (h : OutAt W g v) : W.frozen? ⟨g, 0, none⟩ = false := by unfold OutAt at h; simp [World.frozen?, h]
theorem OutAt.lt {W : World} {g : Nat} {v : Value} (h : OutAt W g v) : g < W.heap.size := (Array.getElem?_eq_some_iff.1 h).1
theorem OutAt.of {W W' : World} {g : Nat} {v : Value} (h : OutAt W g v) (hW : W'.heap[g]? = W.heap[g]?) : OutAt W' g v := hW.trans h
theorem OutAt.alloc {W : World} {g : Nat} {v : Value} (h : OutAt W g v) (o : Obj) : OutAt (W.alloc o) g v := h.of (Below.heap_alloc _ _ _ h.lt)
theorem OutAt.set {W : World} {g : Nat} {v : Value} (h : OutAt W g v) (u : Value) : OutAt (W.setCell ⟨g, 0, none⟩ u) g u := Go.heap_setCell_same W g 0 _ _ _ h
/-- The job in block b. -/
def JobAt (W : World) (b : Nat) (q x a i : Bool) (sc : ByteArray) (en : Int) (lo : ByteArray) (fl : Value) : Prop := W.heap[b]? = some (.cells #[.bool q, .bool x, .bool a, .bool i, .string sc, .int .u8 en, .string lo, fl] 24 (0, 0))
section
variable {W W' : World} {b : Nat} {q x a i : Bool} {sc : ByteArray} {en : Int} {lo : ByteArray} {fl : Value}
theorem JobAt.c (h : JobAt W b q x a i sc en lo fl) : W.cell? ⟨b, 0, none⟩ = some (.bool q) ∧ W.cell? ⟨b, 1, none⟩ = some (.bool x) ∧ W.cell? ⟨b, 2, none⟩ = some (.bool a) ∧ W.cell? ⟨b, 3, none⟩ = some (.bool i) ∧ W.cell? ⟨b, 4, none⟩ = some (.string sc) ∧ W.cell? ⟨b, 5, none⟩ = some (.int .u8 en) ∧ W.cell? ⟨b, 6, none⟩ = some (.string lo) ∧ W.cell? ⟨b, 7, none⟩ = some fl := by unfold JobAt at h; simp [World.cell?, h]
theorem JobAt.of (h : JobAt W b q x a i sc en lo fl) (hW : W'.heap[b]? = W.heap[b]?) : JobAt W' b q x a i sc en lo fl := hW.trans h
end
theorem litR (W : World) (l : List ByteArray) (h : l.length ≤ 100) : Kd.R Kd.string 9 (W.alloc (.cells (l.map Value.string).toArray 9)) W.heap.size (fun _ => True) (.slice (some ⟨W.heap.size, 0, none⟩) l.length l.length) l :=
  Kd.R_of_own (by
    have h2 := World.ownsRow_lit (base := W.heap.size) (e := 9) (size := 1) W (l.map Value.string).toArray l.length (Nat.le_refl _) (by simp [maxLen]; omega) (by simp)
    simpa [encs] using h2) (fun _ _ => trivial)
theorem litC (W : World) (l : List ByteArray) (h : l.length ≤ 100) : Kd.C Kd.string (W.alloc (.cells (l.map Value.string).toArray 9)) (some ⟨W.heap.size, 0, none⟩) l.length l := (Kd.R_reads' (litR W l h)).2.2
#print axioms litC

set_option maxRecDepth 100000 in
/-- 'add'. -/
theorem add20 (W : World) (g : Nat) (is : Bool) (v : Value) (A : Option Addr) (c : Nat) (xs ys : List ByteArray) (ho : OutAt W g v) (hR : Kd.R Kd.string 9 W (g + 1) (fun _ => True) v xs) (hC : Kd.C Kd.string W A ys.length ys) (hl : xs.length + ys.length < 1000000) :
    Calls Tryd.prog 20 #[.bool is, .slice A ys.length c, .pointer (some ⟨g, 0, none⟩)] W fun e w' => e = .returned (.tuple #[]) ∧ ∃ v', OutAt w' g v' ∧ Kd.R Kd.string 9 w' (g + 1) (fun _ => True) v' (xs ++ if is then ys else []) ∧ Below g W w' := by
  have c0 := ho.c
  have f0 := ho.f
  have HO := Aside0.mk ho
  have HR := Aside0.mk hR
  have HC := Aside0.mk hC
  have HL := Aside0.mk hl
  have HLT := Aside0.mk (show g + 1 ≤ W.heap.size from ho.lt)
  clear ho hR hC hl
  cases is
  · go_enter Tryd.func20, Tryd.ntmps20
    go_wp2
    refine ⟨rfl, .tuple #[], results_none rfl _ _ _, ?_⟩
    exact ⟨rfl, v, HO.out, by simpa using HR.out, Below.refl _ _⟩
  · go_enter Tryd.func20, Tryd.ntmps20
    go_wp2_with ((with_reducible refine gate_builtin (b := .append) (xs := #[.tmp 6, .tmp 7]) rfl ?_); at_builtin; refine Kd.R_append_rows Kd.string (w0 := W) (g + 1) rfl (.tmp 6) (.tmp 7) 22 9 (.string ⟨#[]⟩) 16 rfl Tryd.underlying22 PX.info9 rfl (by decide) (by omega) v xs ys _ _ _ (fun _ => True) (fun _ => False) rfl rfl HR.out HC.out (fun _ _ h => h) (fun _ h => h.elim) (fun _ _ => trivial) (Below.refl _ _) HLT.out (by have := HL.out; omega) ?_; intro v1 w1 ho hb hg hat; obtain ⟨Av, cv, rfl⟩ := Kd.R_slice ho; have HO5 := Aside0.mk ho; have HB5 := Aside0.mk hb; have HO1 := Aside0.mk (HO.out.of (hb.block g (Nat.lt_succ_self g))); have c1 := HO1.out.c; have f1 := HO1.out.f; clear ho hb hg hat)
    refine ⟨rfl, .tuple #[], results_none rfl _ _ _, ?_⟩
    exact ⟨rfl, _, HO1.out.set _, by simpa using R_at_set HO5.out _, (HB5.out.mono (Nat.le_succ g)).setCell (Nat.le_refl g) _⟩
#print axioms add20

/-- What Print does. -/
def printF (q x a i : Bool) (sc : ByteArray) (en : Int) (lo : ByteArray) (fl : List ByteArray) : List ByteArray :=
  ((((((((([] ++ if q then [(⟨#[45, 110]⟩ : ByteArray)] else []) ++ if x then [(⟨#[45, 69]⟩ : ByteArray)] else []) ++ if (a && !i) then [(⟨#[45, 115]⟩ : ByteArray)] else []) ++ if i then [(⟨#[45, 105]⟩ : ByteArray)] else []) ++ if en == 2 then [(⟨#[45, 99]⟩ : ByteArray), (⟨#[117, 116, 102, 45, 49, 54]⟩ : ByteArray)] else []) ++ if en == 3 then [(⟨#[45, 99]⟩ : ByteArray), (⟨#[108, 97, 116, 105, 110, 49]⟩ : ByteArray)] else []) ++ if (!lo.toList.isEmpty) then [(⟨#[45, 76]⟩ : ByteArray), lo] else []) ++ if true then [(⟨#[45, 101]⟩ : ByteArray), sc, (⟨#[45, 45]⟩ : ByteArray)] else []) ++ fl)

/-- What holds between two of its rows: the job in block b, the arguments so far in block b + 1. -/
structure Good (w : World) (b : Nat) (q x a i : Bool) (sc : ByteArray) (en : Int) (lo : ByteArray) (fl : Value) (W : World) (v : Value) (xs : List ByteArray) : Prop where
  j : JobAt W b q x a i sc en lo fl
  o : OutAt W (b + 1) v
  r : Kd.R Kd.string 9 W (b + 2) (fun _ => True) v xs
  h : Below b w W
theorem step20 {w : World} {b : Nat} {q x a i : Bool} {sc : ByteArray} {en : Int} {lo : ByteArray} {fl : Value} {W : World} {v : Value} {xs : List ByteArray} {m : Nat} (hG : Aside0 (Good w b q x a i sc en lo fl W v xs)) (is : Bool) (ys : List ByteArray) (hx : Aside0 (xs.length ≤ m)) (hm : m ≤ 1000) (hy : ys.length ≤ 100) :
    Calls Tryd.prog 20 #[.bool is, .slice (some ⟨W.heap.size, 0, none⟩) ys.length ys.length, .pointer (some ⟨b + 1, 0, none⟩)] (W.alloc (.cells (ys.map Value.string).toArray 9)) fun e w' => e = .returned (.tuple #[]) ∧ ∃ v' xs', Aside0 (xs' = xs ++ if is then ys else []) ∧ Aside0 (xs'.length ≤ m + ys.length) ∧ Aside0 (Good w b q x a i sc en lo fl w' v' xs') := by
  have hA := below_alloc (Below.refl W.heap.size W) (.cells (ys.map Value.string).toArray 9)
  have h1 : W.heap.size ≤ (W.alloc (.cells (ys.map Value.string).toArray 9)).heap.size := hA.size
  have hlt : b + 1 < W.heap.size := hG.out.o.lt
  refine (add20 (W.alloc (.cells (ys.map Value.string).toArray 9)) (b + 1) is v _ _ xs ys (hG.out.o.alloc _) (Kd.R_below hG.out.r hA) (litC W ys hy) (by have := hx.out; omega)).mono ?_
  rintro e w' ⟨rfl, v', ho, hr, hb⟩
  refine ⟨rfl, v', _, ⟨rfl⟩, ⟨?_⟩, ⟨hG.out.j.of ?_, ho, hr, (hG.out.h.trans (hA.mono (by omega))).trans (hb.mono (by omega))⟩⟩
  · have := hx.out
    cases is <;> simp <;> omega
  · rw [hb.block b (Nat.lt_succ_self b)]
    exact Below.heap_alloc _ _ _ (by omega)
#print axioms step20

theorem good_start (w : World) (q x a i : Bool) (sc : ByteArray) (en : Int) (lo : ByteArray) (fl : Value) (W1 : World) (h : W1 = (w.alloc (.cells #[.bool q, .bool x, .bool a, .bool i, .string sc, .int .u8 en, .string lo, fl] 24)).alloc (.cells #[.slice none 0 0] 22)) :
    W1.heap.size = w.heap.size + 1 + 1 ∧ Good w w.heap.size q x a i sc en lo fl W1 (.slice none 0 0) [] := by
  subst h
  have at_ : ∀ (W : World) (o : Obj), (W.alloc o).heap[W.heap.size]? = some o := fun W o => by show (W.heap.push o)[W.heap.size]? = _; simp
  have s1 : (w.alloc (.cells #[.bool q, .bool x, .bool a, .bool i, .string sc, .int .u8 en, .string lo, fl] 24)).heap.size = w.heap.size + 1 := Array.size_push _
  refine ⟨by rw [← s1]; exact Array.size_push _, ⟨?_, ?_, Kd.R_nil _ _ _ _ _, below_alloc (below_alloc (Below.refl _ _) _) _⟩⟩
  · unfold JobAt
    rw [Below.heap_alloc _ _ _ (by omega)]
    exact at_ _ _
  · unfold OutAt
    rw [← s1]
    exact at_ _ _

set_option maxHeartbeats 4000000 in
set_option maxRecDepth 100000 in
theorem print_calls_true (w : World) (q x i : Bool) (sc : ByteArray) (en : Int) (lo : ByteArray) (A : Option Addr) (c : Nat) (fl : List ByteArray) (hC : Kd.C Kd.string w A fl.length fl) (hl : fl.length < 1000000) :
    Calls Tryd.prog 12 #[.agg #[.bool q, .bool x, .bool true, .bool i, .string sc, .int .u8 en, .string lo, .slice A fl.length c]] w fun e w' => ∃ v, e = .returned v ∧ Kd.R Kd.string 9 w' w.heap.size (fun _ => True) v (printF q x true i sc en lo fl) ∧ Below w.heap.size w w' := by
  have HC := Aside0.mk hC
  have HL := Aside0.mk hl
  clear hC hl
  go_enter Tryd.func12, Tryd.ntmps12
  go_wp2_with (go_at_call 20; refine Aside0.out ?_)
  refine ⟨?_⟩
  obtain ⟨W1, hW1⟩ : ∃ W1, W1 = (w.alloc (.cells #[.bool q, .bool x, .bool true, .bool i, .string sc, .int .u8 en, .string lo, .slice A fl.length c] 24)).alloc (.cells #[.slice none 0 0] 22) := ⟨_, rfl⟩
  rw [← hW1]
  have hs := good_start w q x true i sc en lo (.slice A fl.length c) W1 hW1
  clear hW1
  rw [← hs.1]
  have G1 := Aside0.mk hs.2
  clear hs
  have L1 : Aside0 (([] : List ByteArray).length ≤ 0) := ⟨Nat.le_refl _⟩
  obtain ⟨b, hb⟩ : ∃ b, b = w.heap.size := ⟨_, rfl⟩
  rw [← hb]
  rw [← hb] at G1
  have HB := Aside0.mk hb
  clear hb
  refine (step20 G1 q [(⟨#[45, 110]⟩ : ByteArray)] L1 (by simp) (by simp)).mono ?_
  rintro e W2 ⟨rfl, v2, xs2, E2, L2, G2⟩
  clear G1 L1
  have c2 := G2.out.j.c
  go_wp2_with (go_at_call 20; refine Aside0.out ?_)
  refine ⟨?_⟩
  clear c2
  refine (step20 G2 x [(⟨#[45, 69]⟩ : ByteArray)] L2 (by simp) (by simp)).mono ?_
  rintro e W3 ⟨rfl, v3, xs3, E3, L3, G3⟩
  clear G2 L2
  have c3 := G3.out.j.c
  go_wp2_with (go_at_call 20; refine Aside0.out ?_)
  refine ⟨?_⟩
  clear c3
  refine (step20 G3 (!i) [(⟨#[45, 115]⟩ : ByteArray)] L3 (by simp) (by simp)).mono ?_
  rintro e W4 ⟨rfl, v4, xs4, E4, L4, G4⟩
  clear G3 L3
  have c4 := G4.out.j.c
  go_wp2_with (go_at_call 20; refine Aside0.out ?_)
  refine ⟨?_⟩
  clear c4
  refine (step20 G4 i [(⟨#[45, 105]⟩ : ByteArray)] L4 (by simp) (by simp)).mono ?_
  rintro e W5 ⟨rfl, v5, xs5, E5, L5, G5⟩
  clear G4 L4
  have c5 := G5.out.j.c
  go_wp2_with (go_at_call 20; refine Aside0.out ?_)
  refine ⟨?_⟩
  clear c5
  refine (step20 G5 (en == 2) [(⟨#[45, 99]⟩ : ByteArray), (⟨#[117, 116, 102, 45, 49, 54]⟩ : ByteArray)] L5 (by simp) (by simp)).mono ?_
  rintro e W6 ⟨rfl, v6, xs6, E6, L6, G6⟩
  clear G5 L5
  have c6 := G6.out.j.c
  go_wp2_with (go_at_call 20; refine Aside0.out ?_)
  refine ⟨?_⟩
  clear c6
  refine (step20 G6 (en == 3) [(⟨#[45, 99]⟩ : ByteArray), (⟨#[108, 97, 116, 105, 110, 49]⟩ : ByteArray)] L6 (by simp) (by simp)).mono ?_
  rintro e W7 ⟨rfl, v7, xs7, E7, L7, G7⟩
  clear G6 L6
  have c7 := G7.out.j.c
  go_wp2_with (go_at_call 20; refine Aside0.out ?_)
  refine ⟨?_⟩
  clear c7
  refine (step20 G7 (!lo.toList.isEmpty) [(⟨#[45, 76]⟩ : ByteArray), lo] L7 (by simp) (by simp)).mono ?_
  rintro e W8 ⟨rfl, v8, xs8, E8, L8, G8⟩
  clear G7 L7
  have c8 := G8.out.j.c
  go_wp2_with (go_at_call 20; refine Aside0.out ?_)
  refine ⟨?_⟩
  clear c8
  refine (step20 G8 true [(⟨#[45, 101]⟩ : ByteArray), sc, (⟨#[45, 45]⟩ : ByteArray)] L8 (by simp) (by simp)).mono ?_
  rintro e W9 ⟨rfl, v9, xs9, E9, L9, G9⟩
  clear G8 L8
  have c9 := G9.out.j.c
  have o9 := G9.out.o.c
  have CF : Aside0 (Kd.C Kd.string W9 A fl.length fl) := ⟨Kd.C_below HC.out (by have h1 := G9.out.h; rw [HB.out] at h1; exact h1)⟩
  have LF : Aside0 (xs9.length ≤ 13) := ⟨Nat.le_trans L9.out (by simp)⟩
  have LW : Aside0 (b + 2 ≤ W9.heap.size) := ⟨G9.out.o.lt⟩
  clear L9
  go_wp2_with ((with_reducible refine gate_builtin (b := .append) (xs := #[.tmp 56, .tmp 58]) rfl ?_); at_builtin; refine Kd.R_append_rows Kd.string (w0 := W9) (b + 2) rfl (.tmp 56) (.tmp 58) 22 9 (.string ⟨#[]⟩) 16 rfl Tryd.underlying22 PX.info9 rfl (by decide) (by omega) v9 xs9 fl _ _ _ (fun _ => True) (fun _ => False) rfl rfl G9.out.r CF.out (fun _ _ h => h) (fun _ h => h.elim) (fun _ _ => trivial) (Below.refl _ _) LW.out (by have := HL.out; have := LF.out; omega) ?_; intro v10 W10 ho hb hg hat; obtain ⟨Av, cv, rfl⟩ := Kd.R_slice ho; have HO5 := Aside0.mk ho; have HB5 := Aside0.mk hb; clear ho hb hg hat)
  go_ret
  have hE : xs9 ++ fl = printF q x true i sc en lo fl := by
    rw [E9.out, E8.out, E7.out, E6.out, E5.out, E4.out, E3.out, E2.out]
    simp [printF]
  refine ⟨.slice Av (xs9.length + fl.length) cv, rfl, ?_, ?_⟩
  · have h1 := Kd.R_lower HO5.out (base' := b) (by omega)
    rw [List.length_append] at h1
    rw [← HB.out, ← hE]
    exact h1
  · rw [← HB.out]
    exact G9.out.h.trans (HB5.out.mono (by omega))
#print axioms print_calls_true
set_option maxHeartbeats 4000000 in
set_option maxRecDepth 100000 in
theorem print_calls_false (w : World) (q x i : Bool) (sc : ByteArray) (en : Int) (lo : ByteArray) (A : Option Addr) (c : Nat) (fl : List ByteArray) (hC : Kd.C Kd.string w A fl.length fl) (hl : fl.length < 1000000) :
    Calls Tryd.prog 12 #[.agg #[.bool q, .bool x, .bool false, .bool i, .string sc, .int .u8 en, .string lo, .slice A fl.length c]] w fun e w' => ∃ v, e = .returned v ∧ Kd.R Kd.string 9 w' w.heap.size (fun _ => True) v (printF q x false i sc en lo fl) ∧ Below w.heap.size w w' := by
  have HC := Aside0.mk hC
  have HL := Aside0.mk hl
  clear hC hl
  go_enter Tryd.func12, Tryd.ntmps12
  go_wp2_with (go_at_call 20; refine Aside0.out ?_)
  refine ⟨?_⟩
  obtain ⟨W1, hW1⟩ : ∃ W1, W1 = (w.alloc (.cells #[.bool q, .bool x, .bool false, .bool i, .string sc, .int .u8 en, .string lo, .slice A fl.length c] 24)).alloc (.cells #[.slice none 0 0] 22) := ⟨_, rfl⟩
  rw [← hW1]
  have hs := good_start w q x false i sc en lo (.slice A fl.length c) W1 hW1
  clear hW1
  rw [← hs.1]
  have G1 := Aside0.mk hs.2
  clear hs
  have L1 : Aside0 (([] : List ByteArray).length ≤ 0) := ⟨Nat.le_refl _⟩
  obtain ⟨b, hb⟩ : ∃ b, b = w.heap.size := ⟨_, rfl⟩
  rw [← hb]
  rw [← hb] at G1
  have HB := Aside0.mk hb
  clear hb
  refine (step20 G1 q [(⟨#[45, 110]⟩ : ByteArray)] L1 (by simp) (by simp)).mono ?_
  rintro e W2 ⟨rfl, v2, xs2, E2, L2, G2⟩
  clear G1 L1
  have c2 := G2.out.j.c
  go_wp2_with (go_at_call 20; refine Aside0.out ?_)
  refine ⟨?_⟩
  clear c2
  refine (step20 G2 x [(⟨#[45, 69]⟩ : ByteArray)] L2 (by simp) (by simp)).mono ?_
  rintro e W3 ⟨rfl, v3, xs3, E3, L3, G3⟩
  clear G2 L2
  have c3 := G3.out.j.c
  go_wp2_with (go_at_call 20; refine Aside0.out ?_)
  refine ⟨?_⟩
  clear c3
  refine (step20 G3 false [(⟨#[45, 115]⟩ : ByteArray)] L3 (by simp) (by simp)).mono ?_
  rintro e W4 ⟨rfl, v4, xs4, E4, L4, G4⟩
  clear G3 L3
  have c4 := G4.out.j.c
  go_wp2_with (go_at_call 20; refine Aside0.out ?_)
  refine ⟨?_⟩
  clear c4
  refine (step20 G4 i [(⟨#[45, 105]⟩ : ByteArray)] L4 (by simp) (by simp)).mono ?_
  rintro e W5 ⟨rfl, v5, xs5, E5, L5, G5⟩
  clear G4 L4
  have c5 := G5.out.j.c
  go_wp2_with (go_at_call 20; refine Aside0.out ?_)
  refine ⟨?_⟩
  clear c5
  refine (step20 G5 (en == 2) [(⟨#[45, 99]⟩ : ByteArray), (⟨#[117, 116, 102, 45, 49, 54]⟩ : ByteArray)] L5 (by simp) (by simp)).mono ?_
  rintro e W6 ⟨rfl, v6, xs6, E6, L6, G6⟩
  clear G5 L5
  have c6 := G6.out.j.c
  go_wp2_with (go_at_call 20; refine Aside0.out ?_)
  refine ⟨?_⟩
  clear c6
  refine (step20 G6 (en == 3) [(⟨#[45, 99]⟩ : ByteArray), (⟨#[108, 97, 116, 105, 110, 49]⟩ : ByteArray)] L6 (by simp) (by simp)).mono ?_
  rintro e W7 ⟨rfl, v7, xs7, E7, L7, G7⟩
  clear G6 L6
  have c7 := G7.out.j.c
  go_wp2_with (go_at_call 20; refine Aside0.out ?_)
  refine ⟨?_⟩
  clear c7
  refine (step20 G7 (!lo.toList.isEmpty) [(⟨#[45, 76]⟩ : ByteArray), lo] L7 (by simp) (by simp)).mono ?_
  rintro e W8 ⟨rfl, v8, xs8, E8, L8, G8⟩
  clear G7 L7
  have c8 := G8.out.j.c
  go_wp2_with (go_at_call 20; refine Aside0.out ?_)
  refine ⟨?_⟩
  clear c8
  refine (step20 G8 true [(⟨#[45, 101]⟩ : ByteArray), sc, (⟨#[45, 45]⟩ : ByteArray)] L8 (by simp) (by simp)).mono ?_
  rintro e W9 ⟨rfl, v9, xs9, E9, L9, G9⟩
  clear G8 L8
  have c9 := G9.out.j.c
  have o9 := G9.out.o.c
  have CF : Aside0 (Kd.C Kd.string W9 A fl.length fl) := ⟨Kd.C_below HC.out (by have h1 := G9.out.h; rw [HB.out] at h1; exact h1)⟩
  have LF : Aside0 (xs9.length ≤ 13) := ⟨Nat.le_trans L9.out (by simp)⟩
  have LW : Aside0 (b + 2 ≤ W9.heap.size) := ⟨G9.out.o.lt⟩
  clear L9
  go_wp2_with ((with_reducible refine gate_builtin (b := .append) (xs := #[.tmp 56, .tmp 58]) rfl ?_); at_builtin; refine Kd.R_append_rows Kd.string (w0 := W9) (b + 2) rfl (.tmp 56) (.tmp 58) 22 9 (.string ⟨#[]⟩) 16 rfl Tryd.underlying22 PX.info9 rfl (by decide) (by omega) v9 xs9 fl _ _ _ (fun _ => True) (fun _ => False) rfl rfl G9.out.r CF.out (fun _ _ h => h) (fun _ h => h.elim) (fun _ _ => trivial) (Below.refl _ _) LW.out (by have := HL.out; have := LF.out; omega) ?_; intro v10 W10 ho hb hg hat; obtain ⟨Av, cv, rfl⟩ := Kd.R_slice ho; have HO5 := Aside0.mk ho; have HB5 := Aside0.mk hb; clear ho hb hg hat)
  go_ret
  have hE : xs9 ++ fl = printF q x false i sc en lo fl := by
    rw [E9.out, E8.out, E7.out, E6.out, E5.out, E4.out, E3.out, E2.out]
    simp [printF]
  refine ⟨.slice Av (xs9.length + fl.length) cv, rfl, ?_, ?_⟩
  · have h1 := Kd.R_lower HO5.out (base' := b) (by omega)
    rw [List.length_append] at h1
    rw [← HB.out, ← hE]
    exact h1
  · rw [← HB.out]
    exact G9.out.h.trans (HB5.out.mono (by omega))
#print axioms print_calls_false
theorem print_calls (w : World) (q x a i : Bool) (sc : ByteArray) (en : Int) (lo : ByteArray) (A : Option Addr) (c : Nat) (fl : List ByteArray) (hC : Kd.C Kd.string w A fl.length fl) (hl : fl.length < 1000000) :
    Calls Tryd.prog 12 #[.agg #[.bool q, .bool x, .bool a, .bool i, .string sc, .int .u8 en, .string lo, .slice A fl.length c]] w fun e w' => ∃ v, e = .returned v ∧ Kd.R Kd.string 9 w' w.heap.size (fun _ => True) v (printF q x a i sc en lo fl) ∧ Below w.heap.size w w' := by
  cases a
  · exact print_calls_false w q x i sc en lo A c fl hC hl
  · exact print_calls_true w q x i sc en lo A c fl hC hl
#print axioms print_calls
end Go.Proofs.YtceflmoiiiclcaaDoor.EC
namespace Go.Proofs.YtceflmoiiiclcaaDoor.PX
set_option linter.unusedVariables false
open Go.RowKit Go.Proofs.YtceflmoiiiclcaaDoorW.PrintWords Go.Proofs.YtceflmoiiiclcaaDoor.EC
def opts_Print.f (k : Nat) (q x a i : Bool) (sc : ByteArray) (en : Int) (lo : ByteArray) (fl : List ByteArray) : Option (List ByteArray) := if fl.length < 1000000 then some (printF q x a i sc en lo fl) else none
theorem opts_Print.mono : ∀ a0 a1 a2 a3 a4 a5 a6 a7 k, LeO (opts_Print.f k a0 a1 a2 a3 a4 a5 a6 a7) (opts_Print.f (k + 1) a0 a1 a2 a3 a4 a5 a6 a7) := fun _ _ _ _ _ _ _ _ _ => LeO.refl _
theorem opts_Print.calls (k : Nat) (a0 a1 a2 a3 : Bool) (a4 : ByteArray) (a5 : Int) (a6 : ByteArray) (A : Option Addr) (c : Nat) (l : List ByteArray) (r : List ByteArray) (w : World) (hr : Kd.C Kd.string w A l.length l) (hc : l.length ≤ c) (h : opts_Print.f k a0 a1 a2 a3 a4 a5 a6 l = some r) :
    Calls Tryd.prog 12 #[.agg #[.bool a0, .bool a1, .bool a2, .bool a3, .string a4, .int .u8 a5, .string a6, .slice A l.length c]] w fun e w' => ∃ v, e = .returned v ∧ Kd.R Kd.string 9 w' w.heap.size (fun _ => True) v r ∧ Below w.heap.size w w' := by
  unfold opts_Print.f at h
  by_cases c0 : l.length < 1000000
  · rw [if_pos c0] at h
    obtain rfl := Option.some.inj h
    exact print_calls w a0 a1 a2 a3 a4 a5 a6 A c l hr c0
  · rw [if_neg c0] at h
    cases h
#print axioms opts_Print.calls
end Go.Proofs.YtceflmoiiiclcaaDoor.PX
