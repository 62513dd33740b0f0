/- The document's answer for opts: redactorref19.Parse answers what the plain function 'parseF' says. Conditions: arguments and files stand in memory; sizes. -/
import Derived.Test.YtceflmoiiiclcaaDoorExtRefL
import Derived.Test.YtceflmoiiiclcaaDoorExtParse
namespace Go.Proofs.YtceflmoiiiclcaaDoor.RF
open Go.RowKit Go.Proofs.YtceflmoiiiclcaaDoorW.PrintWords Go.Proofs.YtceflmoiiiclcaaDoorW.PrintLast Go.Proofs.YtceflmoiiiclcaaDoorW.PrintMore
open EC
set_option linter.unusedVariables false
set_option linter.unusedSimpArgs false
/-- How Parse ends. -/
def REnd (w : World) (r : PR) (e : Ending) (w' : World) : Prop :=
  ∃ v : Value, e = .returned (.tuple #[.agg #[.bool r.1, .bool r.2.1, .bool r.2.2.1, .bool r.2.2.2.1, .string r.2.2.2.2.1, .int .u8 r.2.2.2.2.2.1, .string r.2.2.2.2.2.2.1, v], .int .i64 r.2.2.2.2.2.2.2.2.1, .int .i64 r.2.2.2.2.2.2.2.2.2]) ∧ Kd.Q Kd.string 9 w' w.heap.size (fun _ => True) v r.2.2.2.2.2.2.2.1 ∧ Below w.heap.size w w'
set_option maxHeartbeats 4000000 in
set_option maxRecDepth 100000 in
theorem refparse_long (w : World) (A0 : Option Addr) (c0 n0 : Nat) (fv : Value) (h : 40 < n0) : Calls Tryd.prog 23 #[.slice A0 n0 c0, fv] w (REnd w (noJob 3 0)) := by
  have t1 : decide ((n0 : Int) > 40) = true := decide_eq_true (by omega)
  have t2 : decide ((40 : Int) < (n0 : Int)) = true := decide_eq_true (by omega)
  go_enter Tryd.func23, Tryd.ntmps23
  go_wp2
  refine bodyPost_ret (results_ctt rfl _ _ w.heap.size 24 _ (0, 0) _ rfl (by show (w.heap.push _)[w.heap.size]? = _; simp; rfl) Tryd.underlying24 rfl (by kernel_rfl)) rfl ?_
  exact ⟨_, rfl, Kd.Q_nil _ _ _ _ _, below_alloc (Below.refl _ _) _⟩
#print axioms refparse_long
/-- Nothing, written into the result's block. -/
abbrev res8 (W : World) (p : Nat) : World := (((((((W.setCell ⟨p, 0, none⟩ (.bool false)).setCell ⟨p, 1, none⟩ (.bool false)).setCell ⟨p, 2, none⟩ (.bool false)).setCell ⟨p, 3, none⟩ (.bool false)).setCell ⟨p, 4, none⟩ (.string ⟨#[]⟩)).setCell ⟨p, 5, none⟩ (.int .u8 0)).setCell ⟨p, 6, none⟩ (.string ⟨#[]⟩)).setCell ⟨p, 7, none⟩ (.slice none 0 0)
/-- A job in the result's block. -/
def JbAt (W : World) (p : Nat) (q x a i : Bool) (sc : ByteArray) (en : Int) (lo : ByteArray) (fl : Value) : Prop := W.heap[p]? = some (.cells #[.bool q, .bool x, .bool a, .bool i, .string sc, .int .u8 en, .string lo, fl] 24 (0, 0))
abbrev put8 (W : World) (p : Nat) (q x a i : Bool) (sc : ByteArray) (en : Int) (lo : ByteArray) (fl : Value) : World := (((((((W.setCell ⟨p, 0, none⟩ (.bool q)).setCell ⟨p, 1, none⟩ (.bool x)).setCell ⟨p, 2, none⟩ (.bool a)).setCell ⟨p, 3, none⟩ (.bool i)).setCell ⟨p, 4, none⟩ (.string sc)).setCell ⟨p, 5, none⟩ (.int .u8 en)).setCell ⟨p, 6, none⟩ (.string lo)).setCell ⟨p, 7, none⟩ fl
theorem put8_at {W : World} {p : Nat} (h : ResAt W p) (q x a i : Bool) (sc : ByteArray) (en : Int) (lo : ByteArray) (fl : Value) : JbAt (put8 W p q x a i sc en lo fl) p q x a i sc en lo fl := by
  unfold ResAt at h
  unfold JbAt
  have h0 := Go.heap_setCell_same _ p 0 _ _ (.bool q) h
  simp only [List.setIfInBounds_toArray, List.set_cons_succ, List.set_cons_zero] at h0
  have h1 := Go.heap_setCell_same _ p 1 _ _ (.bool x) h0
  simp only [List.setIfInBounds_toArray, List.set_cons_succ, List.set_cons_zero] at h1
  have h2 := Go.heap_setCell_same _ p 2 _ _ (.bool a) h1
  simp only [List.setIfInBounds_toArray, List.set_cons_succ, List.set_cons_zero] at h2
  have h3 := Go.heap_setCell_same _ p 3 _ _ (.bool i) h2
  simp only [List.setIfInBounds_toArray, List.set_cons_succ, List.set_cons_zero] at h3
  have h4 := Go.heap_setCell_same _ p 4 _ _ (.string sc) h3
  simp only [List.setIfInBounds_toArray, List.set_cons_succ, List.set_cons_zero] at h4
  have h5 := Go.heap_setCell_same _ p 5 _ _ (.int .u8 en) h4
  simp only [List.setIfInBounds_toArray, List.set_cons_succ, List.set_cons_zero] at h5
  have h6 := Go.heap_setCell_same _ p 6 _ _ (.string lo) h5
  simp only [List.setIfInBounds_toArray, List.set_cons_succ, List.set_cons_zero] at h6
  have h7 := Go.heap_setCell_same _ p 7 _ _ fl h6
  simp only [List.setIfInBounds_toArray, List.set_cons_succ, List.set_cons_zero] at h7
  exact h7
theorem res_zero {W : World} {p : Nat} (h : ResAt W p) : (res8 W p).heap[p]? = some (.cells #[.bool false, .bool false, .bool false, .bool false, .string ⟨#[]⟩, .int .u8 0, .string ⟨#[]⟩, .slice none 0 0] 24 (0, 0)) := put8_at h false false false false ⟨#[]⟩ 0 ⟨#[]⟩ (.slice none 0 0)
theorem put8_below {w W : World} {p : Nat} (h : Below p w W) (q x a i : Bool) (sc : ByteArray) (en : Int) (lo : ByteArray) (fl : Value) : Below p w (put8 W p q x a i sc en lo fl) := (((((((h.setCell (Nat.le_refl _) _).setCell (Nat.le_refl _) _).setCell (Nat.le_refl _) _).setCell (Nat.le_refl _) _).setCell (Nat.le_refl _) _).setCell (Nat.le_refl _) _).setCell (Nat.le_refl _) _).setCell (Nat.le_refl _) _
theorem res8_far {W : World} {p : Nat} (k : Nat) (hk : k ≠ p) : (res8 W p).heap[k]? = W.heap[k]? := by
  unfold res8
  rw [Below.heap_setCell _ _ _ _ hk, Below.heap_setCell _ _ _ _ hk, Below.heap_setCell _ _ _ _ hk, Below.heap_setCell _ _ _ _ hk, Below.heap_setCell _ _ _ _ hk, Below.heap_setCell _ _ _ _ hk, Below.heap_setCell _ _ _ _ hk, Below.heap_setCell _ _ _ _ hk]
theorem res_below {w W : World} {p : Nat} (h : Below p w W) : Below p w (res8 W p) := put8_below h false false false false ⟨#[]⟩ 0 ⟨#[]⟩ (.slice none 0 0)
section
variable {W W' w2 : World} {g base : Nat} {ok : Nat → Prop} {v frv ov v' u : Value} {l frs frs' os : List ByteArray}
theorem R_putg (h : Kd.R Kd.string 9 W base ok v l) (hp : g < base) (i : Nat) (u : Value) : Kd.R Kd.string 9 (W.setCell ⟨g, i, none⟩ u) base ok v l :=
  Kd.R_mono (Kd.R_far (Kd.R_bound h) (p := ⟨g, i, none⟩) (fun k hk => by have := hk.2.1; show k ≠ g; omega) u) (fun _ hk => hk.1)
theorem put12_Rg {s : St} {er at_ : Int} (h : Kd.R Kd.string 9 W base ok v l) (hp : g < base) : Kd.R Kd.string 9 (put12 W g s frv ov er at_) base ok v l := R_putg (R_putg (R_putg (R_putg (R_putg (R_putg (R_putg (R_putg (R_putg (R_putg (R_putg (R_putg h hp _ _) hp _ _) hp _ _) hp _ _) hp _ _) hp _ _) hp _ _) hp _ _) hp _ _) hp _ _) hp _ _) hp _ _
theorem R_old (h : Kd.R Kd.string 9 W base ok v l) (hb : Below W.heap.size W W') : Kd.R Kd.string 9 W' base ok v l := Kd.R_step h (fun k _ hlt => hb.block k hlt)
/-- Fragments behind a call: as they were, or new; never the others' block. -/
theorem FR_new (hF : Kd.R Kd.string 9 W base (fun k => some k ≠ ov.ownBlock) frv frs) (hO : Kd.R Kd.string 9 W base (fun _ => True) ov os) (hb : Below W.heap.size W W') (hg : base ≤ W.heap.size) (hv : (v' = frv ∧ frs' = frs) ∨ Kd.R Kd.string 9 W' W.heap.size (fun _ => True) v' frs') :
    Kd.R Kd.string 9 W' base (fun k => some k ≠ ov.ownBlock) v' frs' := by
  rcases hv with ⟨rfl, rfl⟩ | h
  · exact R_old hF hb
  · refine Kd.R_lower (Kd.R_mono (Kd.R_bound h) (fun k hk e => ?_)) hg
    have h1 := Kd.R_lt hO k e.symm
    have h2 := hk.2.1
    omega
/-- Fragments behind an append to the others. -/
theorem FR_app (hF : Kd.R Kd.string 9 W base (fun k => some k ≠ ov.ownBlock) frv frs) (hg : W.grownBy W' ov.ownBlock) (hat : v'.ownBlock = ov.ownBlock ∨ ∃ b, v'.ownBlock = some b ∧ W.heap.size ≤ b) :
    Kd.R Kd.string 9 W' base (fun k => some k ≠ v'.ownBlock) frv frs := by
  have h1 := Kd.R_bound hF
  refine Kd.R_mono (Kd.R_step h1 (fun k hk hlt => hg.block k hlt hk.1)) (fun k hk => ?_)
  rcases hat with hat | ⟨b, hb, hle⟩
  · rw [hat]; exact hk.1
  · rw [hb]
    intro e
    injection e with e
    have := hk.2.2.1
    omega
end
theorem put12_Q {W : World} {g base : Nat} {s : St} {frv ov v : Value} {er at_ : Int} {l : List ByteArray} (h : Kd.Q Kd.string 9 W base (fun _ => True) v l) (hp : g < base) : Kd.Q Kd.string 9 (put12 W g s frv ov er at_) base (fun _ => True) v l := Q_put (Q_put (Q_put (Q_put (Q_put (Q_put (Q_put (Q_put (Q_put (Q_put (Q_put (Q_put h hp) hp) hp) hp) hp) hp) hp) hp) hp) hp) hp) hp
theorem put8_Q {W : World} {p base : Nat} {q x a i : Bool} {sc : ByteArray} {en : Int} {lo : ByteArray} {fl v : Value} {l : List ByteArray} (h : Kd.Q Kd.string 9 W base (fun _ => True) v l) (hp : p < base) : Kd.Q Kd.string 9 (put8 W p q x a i sc en lo fl) base (fun _ => True) v l := Q_put (Q_put (Q_put (Q_put (Q_put (Q_put (Q_put (Q_put h hp) hp) hp) hp) hp) hp) hp) hp
/-- The box's cells with any place. -/
abbrev PC2 (W : World) (g : Nat) (s : St) (frv ov : Value) (at_ : Int) : Prop := W.cell? ⟨g, 0, none⟩ = some (.bool s.q) ∧ W.cell? ⟨g, 1, none⟩ = some (.bool s.x) ∧ W.cell? ⟨g, 2, none⟩ = some (.bool s.a) ∧ W.cell? ⟨g, 3, none⟩ = some (.bool s.i) ∧ W.cell? ⟨g, 4, none⟩ = some (.string ⟨#[]⟩) ∧ W.cell? ⟨g, 5, none⟩ = some (.int .u8 s.en) ∧ W.cell? ⟨g, 6, none⟩ = some (.string s.lo) ∧ W.cell? ⟨g, 7, none⟩ = some (.slice none 0 0) ∧ W.cell? ⟨g, 8, none⟩ = some frv ∧ W.cell? ⟨g, 9, none⟩ = some ov ∧ W.cell? ⟨g, 10, none⟩ = some (.int .i64 0) ∧ W.cell? ⟨g, 11, none⟩ = some (.int .i64 at_)
/-- The box with its script and its files. -/
def PS (W : World) (g : Nat) (s : St) (sc : ByteArray) (fl frv ov : Value) (at_ : Int) : Prop := W.heap[g]? = some (.cells #[.bool s.q, .bool s.x, .bool s.a, .bool s.i, .string sc, .int .u8 s.en, .string s.lo, fl, frv, ov, .int .i64 0, .int .i64 at_] 74 (0, 0))
section
variable {W W' : World} {g : Nat} {s : St} {sc : ByteArray} {fl frv ov : Value} {at_ : Int}
theorem PS.c (h : PS W g s sc fl frv ov at_) : W.cell? ⟨g, 0, none⟩ = some (.bool s.q) ∧ W.cell? ⟨g, 1, none⟩ = some (.bool s.x) ∧ W.cell? ⟨g, 2, none⟩ = some (.bool s.a) ∧ W.cell? ⟨g, 3, none⟩ = some (.bool s.i) ∧ W.cell? ⟨g, 4, none⟩ = some (.string sc) ∧ W.cell? ⟨g, 5, none⟩ = some (.int .u8 s.en) ∧ W.cell? ⟨g, 6, none⟩ = some (.string s.lo) ∧ W.cell? ⟨g, 7, none⟩ = some fl ∧ W.cell? ⟨g, 8, none⟩ = some frv ∧ W.cell? ⟨g, 9, none⟩ = some ov ∧ W.cell? ⟨g, 10, none⟩ = some (.int .i64 0) ∧ W.cell? ⟨g, 11, none⟩ = some (.int .i64 at_) := by unfold PS at h; simp [World.cell?, h]
theorem PS.f (h : PS W g s sc fl frv ov at_) (i : Nat) : W.frozen? ⟨g, i, none⟩ = false := by unfold PS at h; simp [World.frozen?, h]
theorem PS.of (h : PS W g s sc fl frv ov at_) (hW : W'.heap[g]? = W.heap[g]?) : PS W' g s sc fl frv ov at_ := hW.trans h
theorem PS.set4 (h : PS W g s sc fl frv ov at_) (x : ByteArray) : PS (W.setCell ⟨g, 4, none⟩ (.string x)) g s x fl frv ov at_ := Go.heap_setCell_same W g 4 _ _ _ h
end
theorem size_app (a b : ByteArray) : (a ++ b).size = a.size + b.size := ByteArray.size_append
theorem joinS_size' (xs : List ByteArray) : (joinS xs).size = (Lib.join (xs.map (·.data.toList)) [10]).length := by
  show Array.size _ = _
  simp [joinS]
theorem fin_some {s : St} {frs os : List ByteArray} {r : PR} (h : fin s frs os = some r) : (Lib.join (frs.map (·.data.toList)) [10]).length ≤ 140737488355328 ∧ r = (s.q, s.x, s.a, s.i, joinS frs, s.en, s.lo, os, 0, 0) := by
  unfold fin at h
  by_cases c : (Lib.join (frs.map (·.data.toList)) [10]).length ≤ 140737488355328
  · rw [if_pos c] at h
    exact ⟨c, (Option.some.inj h).symm⟩
  · rw [if_neg c] at h
    cases h
theorem join_snoc (xs : List (List UInt8)) (z : List UInt8) (h : xs ≠ []) : Lib.join (xs ++ [z]) [10] = Lib.join xs [10] ++ [10] ++ z := by
  rcases xs with _ | ⟨x, r⟩
  · exact absurd rfl h
  · rw [List.cons_append, Lib.join_cons, Lib.join_cons]
    simp [Lib.joinTail, List.append_assoc]
theorem bytes_ext (a b : ByteArray) (h : a.data.toList = b.data.toList) : a = b := by
  obtain ⟨a⟩ := a
  obtain ⟨b⟩ := b
  congr 1
  exact Array.toList_inj.1 h
theorem data_app (a b : ByteArray) : (a ++ b).data.toList = a.data.toList ++ b.data.toList := by
  rw [ByteArray.data_append, Array.toList_append]
theorem join_step (xs : List ByteArray) (j : Nat) (h : j < xs.length) : joinS (xs.take (j + 1)) = (if j = 0 then joinS (xs.take j) ++ xs[j]'h else (joinS (xs.take j) ++ ⟨#[10]⟩) ++ xs[j]'h) := by
  have ht : xs.take (j + 1) = xs.take j ++ [xs[j]'h] := List.take_succ_eq_append_getElem h
  apply bytes_ext
  by_cases c : j = 0
  · subst c
    rw [if_pos rfl, data_app, ht]
    show (Lib.join (([] ++ [xs[0]'h] : List ByteArray).map (·.data.toList)) [10]).toArray.toList = _ ++ _
    rw [List.nil_append, List.map_cons, List.map_nil, Lib.join_one]
    simp [joinS, Lib.join_nil]
  · rw [if_neg c, data_app, data_app, ht]
    show (Lib.join ((xs.take j ++ [xs[j]'h] : List ByteArray).map (·.data.toList)) [10]).toArray.toList = (Lib.join ((xs.take j).map (·.data.toList)) [10]).toArray.toList ++ [10] ++ _
    rw [List.map_append, List.map_cons, List.map_nil, join_snoc _ _ (by
      intro e
      have := congrArg List.length e
      rw [List.length_map, List.length_take, List.length_nil] at this
      omega)]
theorem tail_take_le (r : List (List UInt8)) (j : Nat) : (Lib.joinTail [10] (r.take j)).length ≤ (Lib.joinTail [10] r).length := by
  have e : Lib.joinTail [10] r = Lib.joinTail [10] (r.take j) ++ Lib.joinTail [10] (r.drop j) := by
    unfold Lib.joinTail
    rw [← List.flatten_append, ← List.map_append, List.take_append_drop]
  rw [e, List.length_append]
  omega
theorem join_take_le (xs : List ByteArray) (j : Nat) : (Lib.join ((xs.take j).map (·.data.toList)) [10]).length ≤ (Lib.join (xs.map (·.data.toList)) [10]).length := by
  rcases xs with _ | ⟨x, r⟩
  · simp
  · rcases j with _ | j
    · simp [Lib.join_nil]
    · rw [List.take_succ_cons, List.map_cons, List.map_cons, Lib.join_cons, Lib.join_cons, List.length_append, List.length_append, List.map_take]
      have := tail_take_le (r.map (·.data.toList)) j
      omega
#print axioms join_take_le
set_option maxHeartbeats 16000000 in
set_option maxRecDepth 100000 in
theorem refparse_all (w : World) (A0 : Option Addr) (c0 : Nat) (xs : List ByteArray) (A1 : Option Addr) (c1 : Nat) (l : List PX.S54) (r : PR) (hC0 : Kd.C Kd.string w A0 xs.length xs) (hC1 : Kd.C PX.k54 w A1 l.length l) (hc0 : xs.length ≤ c0) (hz : ∀ z ∈ xs, z.size < 4611686018427387904) (hl : l.length < 35184372088832) (hd : ∀ x ∈ l, x.f1.length < 4611686018427387904) (hn : ¬ 40 < xs.length)
    (h : (parseL l (xs.length + 1) xs 0 st0 [] []).bind (endF xs.length) = some r) :
    Calls Tryd.prog 23 #[.slice A0 xs.length c0, .slice A1 l.length c1] w (REnd w r) := by
  have t1 : decide ((xs.length : Int) > 40) = false := decide_eq_false (by omega)
  have t2 : decide ((40 : Int) < (xs.length : Int)) = false := decide_eq_false (by omega)
  have HC0 := Aside0.mk hC0
  have HC1 := Aside0.mk hC1
  have HZ := Aside0.mk hz
  have HL := Aside0.mk hl
  have HDD := Aside0.mk hd
  have HN := Aside0.mk hn
  have HCC := Aside0.mk hc0
  have HH := Aside0.mk h
  clear hC0 hC1 hz hl hd hn h hc0
  go_enter Tryd.func23, Tryd.ntmps23
  go_upto_region 4 with (fail)
  obtain ⟨W1, hW1⟩ : ∃ W1, W1 = (w.alloc (.cells #[.bool false, .bool false, .bool false, .bool false, .string ⟨#[]⟩, .int .u8 0, .string ⟨#[]⟩, .slice none 0 0] 24)).alloc (.cells #[.bool false, .bool false, .bool false, .bool false, .string ⟨#[]⟩, .int .u8 1, .string ⟨#[]⟩, .slice none 0 0, .slice none 0 0, .slice none 0 0, .int .i64 0, .int .i64 0] 74) := ⟨_, rfl⟩
  rw [← hW1]
  have h2 := two_blocks w _ _ W1 hW1
  have HR0 : Aside0 (ResAt W1 w.heap.size) := ⟨h2.2.1⟩
  have HP0 : Aside0 (PAt W1 (w.heap.size + 1) st0 (.slice none 0 0) (.slice none 0 0) 0 0) := ⟨h2.2.2.1⟩
  have HB0 := Aside0.mk h2.2.2.2
  have HW0 := Aside0.mk h2.1
  clear hW1 h2
  obtain ⟨g, hg⟩ : ∃ g, g = w.heap.size + 1 := ⟨_, rfl⟩
  rw [← hg] at HP0 ⊢
  have HG := Aside0.mk hg
  clear hg
  go_cut [8] (fun v8 wc => v8 = .int .i64 0 ∧ wc = W1)
  case first =>
    go_wp2
    go_meet
    case rel => exact ⟨rfl, rfl⟩
  case rest =>
    obtain ⟨rfl, hwc⟩ := hcut
    subst wc
    go_step
    go_cut [] (fun w3 => ∃ (s1 : St) (frv ov : Value) (frs os : List ByteArray) (er at_ : Int), Aside0 (PAt w3 g s1 frv ov er at_) ∧ Aside0 (Kd.R Kd.string 9 w3 (g + 1) (fun k => some k ≠ ov.ownBlock) frv frs) ∧ Aside0 (Kd.R Kd.string 9 w3 (g + 1) (fun _ => True) ov os) ∧ Aside0 (Below g W1 w3) ∧ Aside0 (frs.length ≤ xs.length ∧ os.length ≤ xs.length) ∧ Aside0 (¬ er = 0 → r = noJob er at_) ∧ Aside0 (er = 0 → endF xs.length (.inr (s1, frs, os)) = some r))
    case first =>
      go_wp2
      go_loopg [8] (xs.length + 1) (fun kq v8 wr => ∃ (x : Int) (i : Nat) (s1 : St) (frv ov : Value) (frs os : List ByteArray) (er at_ : Int), v8 = .int .i64 x ∧ Aside0 (PAt wr g s1 frv ov er at_) ∧ Aside0 (Kd.R Kd.string 9 wr (g + 1) (fun k => some k ≠ ov.ownBlock) frv frs) ∧ Aside0 (Kd.R Kd.string 9 wr (g + 1) (fun _ => True) ov os) ∧ Aside0 (Below g W1 wr) ∧ Aside0 (frs.length ≤ i ∧ os.length ≤ i ∧ i ≤ xs.length) ∧ Aside0 (¬ er = 0 → r = noJob er at_) ∧ Aside0 (er = 0 → x = (i : Int) ∧ at_ = 0 ∧ (parseL l kq (xs.drop i) i s1 frs os).bind (endF xs.length) = some r))
      case atStart => exact ⟨0, 0, st0, _, _, [], [], 0, 0, rfl, HP0, ⟨Kd.R_nil _ _ _ _ _⟩, ⟨Kd.R_nil _ _ _ _ _⟩, ⟨Below.refl _ _⟩, ⟨⟨Nat.le_refl _, Nat.le_refl _, Nat.zero_le _⟩⟩, ⟨fun q => absurd rfl q⟩, ⟨fun _ => ⟨rfl, rfl, HH.out⟩⟩⟩
      case round =>
        obtain ⟨x, i, s1, frv, ov, frs, os, er, at_, rfl, HP, HF, HO, HB, HLEN, HE, HE0⟩ := hrel
        have cp := HP.out.c
        have fp := HP.out.f
        by_cases he : er = 0
        · subst he
          obtain ⟨hx, ha, hH⟩ := HE0.out rfl
          subst hx
          subst ha
          by_cases hlt : i < xs.length
          · have t3 : decide ((i : Int) < (xs.length : Int)) = true := decide_eq_true (by omega)
            have p0 : (0 : Int) ≤ (i : Int) := by omega
            have p1 : (i : Int) < (xs.length : Int) := by omega
            obtain ⟨k1, rfl⟩ : ∃ k1, gk = k1 + 1 := by
              rcases gk with _ | k1
              · exact absurd hH (by simp [parseL])
              · exact ⟨k1, rfl⟩
            obtain ⟨z, rest, hdr⟩ : ∃ z rest, xs.drop i = z :: rest := ⟨_, _, List.drop_eq_getElem_cons hlt⟩
            have hzm : z ∈ xs := List.mem_of_mem_drop (i := i) (by rw [hdr]; exact List.mem_cons_self)
            have hzz := HZ.out z hzm
            obtain ⟨ad, hA0, hxi⟩ : ∃ ad, A0 = some ad ∧ ∀ W', Below w.heap.size w W' → W'.cell? (ad.add i) = some (.string z) := by
              obtain ⟨ad, cc, e, hcl, hk, hc⟩ := Kd.C_get HC0.out ByteArray.empty (i : Int) (by omega) (by omega)
              have hk2 : cc = [.string (xs.getD ((i : Int)).toNat ByteArray.empty)] := hk
              subst hk2
              have h3 := hc 0 _ rfl
              have e1 : ad.add (((i : Int)).toNat * Kd.string.sz + 0) = ad.add i := by
                show ad.add (((i : Int)).toNat * 1 + 0) = _
                rw [Int.toNat_natCast, Nat.mul_one, Nat.add_zero]
              rw [e1] at h3
              have e2 : xs.getD ((i : Int)).toNat ByteArray.empty = z := by
                rw [Int.toNat_natCast, List.getD_eq_getElem?_getD]
                have h4 := congrArg (fun l : List ByteArray => l[0]?) hdr
                simp at h4
                rw [h4]; rfl
              rw [e2] at h3
              exact ⟨ad, e, fun W' hW => (hW.cell (World.block_lt_of_cell? w _ h3)).trans h3⟩
            subst hA0
            have HBW : Aside0 (Below w.heap.size w wr) := ⟨HB0.out.trans (HB.out.mono (by rw [HG.out]; omega))⟩
            have hxw := hxi wr HBW.out
            have HXI := Aside0.mk hxi
            have HDR := Aside0.mk hdr
            have HLT := Aside0.mk hlt
            have HZZ := Aside0.mk hzz
            rw [hdr] at hH
            have H1 := Aside0.mk hH
            clear hH hxi hdr hlt hzm hzz HE HE0
            unfold parseL at H1
            by_cases e45 : (z.toList == ([45, 45] : List UInt8)) = true
            · have H := H1.out
              rw [if_pos e45] at H
              have H2 := Aside0.mk H
              clear H H1
-- BEGIN A 14
              obtain ⟨Af, cf, rfl⟩ := Kd.R_slice HF.out
              obtain ⟨Ao, co, rfl⟩ := Kd.R_slice HO.out
              have HLT2 : Aside0 (g + 1 ≤ wr.drew.heap.size) := ⟨HP.out.lt⟩
              have hrl : (z :: rest).length = xs.length - i := by rw [← HDR.out, List.length_drop]
              have HRL : Aside0 (rest.length = xs.length - (i + 1)) := ⟨by simp only [List.length_cons] at hrl; omega⟩
              have hw1 : wrap64 ((i : Int) + 1) = ((i + 1 : Nat) : Int) := by have h1 := HN.out; have h2 := HLT.out; unfold wrap64; omega
              obtain ⟨i09, hi09, _, hsz9, _⟩ := info_parts PX.info9
              obtain ⟨A2, hA2⟩ : ∃ A2 : Option Addr, A2 = (if c0 = i + 1 then some ad else (some ad).map (·.add ((i + 1) * 1))) := ⟨_, rfl⟩
              have hd2 : xs.drop (i + 1) = rest := by
                have h1 := congrArg (List.drop 1) HDR.out
                rw [List.drop_drop] at h1
                exact h1
              have HC2 : Aside0 (Kd.C Kd.string wr.drew A2 rest.length rest) := ⟨by
                have h4 := Kd.C_drop (Kd.C_below HC0.out (below_drew1 HBW.out)) (m := i + 1) (by have := HLT.out; omega) HCC.out
                rw [hd2] at h4
                rw [hA2, HRL.out]
                rw [HRL.out] at h4
                exact h4⟩
              have hcut : ∀ W : World, (Instr.slice 22 (.slice (some ad) xs.length c0) (some (.int .i64 (wrap64 ((i : Int) + 1)))) none none).run Tryd.prog W = .ok (.slice A2 rest.length (c0 - (i + 1))) W := fun W => by
                have h5 := cut_from (P := Tryd.prog) 22 9 .i64 Tryd.underlying22 hi09 1 hsz9 (some ad) xs.length c0 (wrap64 ((i : Int) + 1)) (by omega) (by have := HLT.out; omega) W
                rw [h5, hw1, hA2, HRL.out]
                rfl
              have HW1 := Aside0.mk hw1
              have HBD : Aside0 ((os.length + rest.length) * 16 ≤ 140737488355328) := ⟨by have h1 := HLEN.out; have h2 := HRL.out; have h3 := HN.out; omega⟩
              obtain ⟨os2, hos2⟩ : ∃ os2, os2 = os ++ rest := ⟨_, rfl⟩
              have HOL2 : Aside0 (os2.length ≤ xs.length) := ⟨by have h1 := HLEN.out; have h2 := HRL.out; have h3 := HLT.out; rw [hos2, List.length_append]; omega⟩
              have HOS := Aside0.mk hos2
              clear hA2 hi09 hsz9 hw1 hrl hd2 hos2
              go_wp2
              refine start_ (n := 9) (S := fun w' => PC w' g s1 (.slice Af frs.length cf) (.slice Ao os.length co)) (ds := [8]) #[false, false, false, false, false, false, false, false, false] (by kernel_rfl) rfl rfl ((HP.out.of (W' := wr.drew) rfl).c) (fun hHeld => ?_)
              refine pure_ (i := 0) (N := some 33) (v := ?_) (a' := ?_) #[true, false, false, false, false, false, false, false, false] rfl rfl (by kernel_rfl) (fun _ _ _ h => h) (Or.inl ⟨by rfl, ?_⟩) ?_ ?_
              rotate_left
              · intro w'
                go_simp
                try with_reducible rfl
              rotate_left
              · simp only [Act.put, List.setIfInBounds_toArray, List.set_cons_zero, List.set_cons_succ]
                rfl
              refine take_ (i := 1) (N := some 34) (v := ?_) (a' := ?_) #[true, true, false, false, false, false, false, false, false] rfl rfl (by kernel_rfl) (fun _ _ _ h => h) (Or.inl ⟨by rfl, ?_⟩) hHeld ?_ ?_
              rotate_left
              · rintro w' ⟨s0, s1_, s2_, s3, s4, s5, s6, s7, s8, s9, s10, s11⟩
                go_simp
                try with_reducible rfl
              rotate_left
              · simp only [Act.put, List.setIfInBounds_toArray, List.set_cons_zero, List.set_cons_succ]
                rfl
              refine pure_ (i := 2) (N := some 35) (v := ?_) (a' := ?_) #[true, true, true, false, false, false, false, false, false] rfl rfl (by kernel_rfl) (fun _ _ _ h => h) (Or.inl ⟨by rfl, ?_⟩) ?_ ?_
              rotate_left
              · intro w'
                go_simp
                try with_reducible rfl
              rotate_left
              · simp only [Act.put, List.setIfInBounds_toArray, List.set_cons_zero, List.set_cons_succ]
                rfl
              refine pure_ (i := 3) (N := some 36) (v := ?_) (a' := ?_) #[true, true, true, true, false, false, false, false, false] rfl rfl (by kernel_rfl) (fun _ _ _ h => h) (Or.inl ⟨by rfl, ?_⟩) ?_ ?_
              rotate_left
              · intro w'
                go_simp
                try with_reducible rfl
              rotate_left
              · simp only [Act.put, List.setIfInBounds_toArray, List.set_cons_zero, List.set_cons_succ]
                rfl
              refine pure_ (i := 4) (N := some 37) (v := .int .i64 (wrap64 ((i : Int) + 1))) (a' := ?_) #[true, true, true, true, true, false, false, false, false] rfl rfl (by kernel_rfl) (fun _ _ _ h => h) (Or.inl ⟨by rfl, ?_⟩) ?_ ?_
              · intro w'
                go_simp
                try simp only [i64_w]
              rotate_left
              · simp only [Act.put, List.setIfInBounds_toArray, List.set_cons_zero, List.set_cons_succ]
                rfl
              refine pure_ (i := 5) (N := some 38) (v := .slice A2 rest.length (c0 - (i + 1))) (a' := ?_) #[true, true, true, true, true, true, false, false, false] rfl rfl (by kernel_rfl) (fun _ _ _ h => h) (Or.inl ⟨by rfl, ?_⟩) ?_ ?_
              · intro w'
                go_simp
                try simp only [hcut]
              rotate_left
              · simp only [Act.put, List.setIfInBounds_toArray, List.set_cons_zero, List.set_cons_succ]
                rfl
              refine one_ (i := 6) (N := some 39) #[true, true, true, true, true, true, true, false, false] rfl rfl (by kernel_rfl) (by decide) (fun K hK => ?_)
              refine Kd.R_append_rows_step Kd.string (Rr := Kd.string.K wr.drew) (w0 := wr.drew) (W := wr.drew) (g + 1) (by rfl) (.tmp 34) (.tmp 38) 22 9 (.string ⟨#[]⟩) 16 rfl Tryd.underlying22 PX.info9 rfl (by decide) (by decide) (.slice Ao os.length co) os rest A2 rest.length (c0 - (i + 1)) (fun _ => True) (fun _ => False) rfl rfl (Kd.R_drew HO.out) HC2.out (fun _ _ h => h) (fun _ hk => hk.elim) (fun _ _ => trivial) (Below.refl _ _) HLT2.out HBD.out ?_
              intro v1 w1 ho hb1 hg1 hat1
              rw [← HOS.out] at ho
              obtain ⟨A3, c3, hv1⟩ := Kd.R_slice ho
              subst hv1
              have HP1 := Aside0.mk ((HP.out.of (W' := wr.drew) rfl).of (hb1.block g (Nat.lt_succ_self g)))
              have HF1 := Aside0.mk (FR_app (Kd.R_drew HF.out) hg1 hat1)
              have HO1 := Aside0.mk ho
              have HB1 := Aside0.mk ((below_drew1 HB.out).trans (hb1.mono (Nat.le_succ g)))
              clear ho hb1 hg1 hat1
              refine hK.out _ _ (HP1.out.c) (fun hHeld => ?_)
              clear hK K
              refine norm_ (a' := ?_) ?_ ?_
              rotate_left
              · show Act.put _ (some 39) _ = _
                simp only [Act.put, List.setIfInBounds_toArray, List.set_cons_zero, List.set_cons_succ]
                rfl
              refine pure_ (i := 7) (N := some 40) (v := ?_) (a' := ?_) #[true, true, true, true, true, true, true, true, false] rfl rfl (by kernel_rfl) (fun _ _ _ h => h) (Or.inl ⟨by rfl, ?_⟩) ?_ ?_
              rotate_left
              · intro w'
                go_simp
                try with_reducible rfl
              rotate_left
              · simp only [Act.put, List.setIfInBounds_toArray, List.set_cons_zero, List.set_cons_succ]
                rfl
              refine last_ (i := 8) (N := none) #[true, true, true, true, true, true, true, true, true] rfl rfl (by kernel_rfl) (by decide) (fun K hK => ?_)
              have fz := HP1.out.f
              have cz := HP1.out.c
              refine skip_ (w1 := w1.setCell ⟨g, 9, none⟩ (.slice A3 os2.length c3)) (by rfl) rfl (by first | (go_simp; done) | (go_simp; rfl)) ?_
              refine hK.out _ _ ?_
              clear hK K
              refine done_ (by kernel_rfl) ?_
              have H3 := H2.out
              rw [← HOS.out] at H3
              go_wp2
              go_meet
              case rel => exact ⟨s1, _, .slice A3 os2.length c3, frs, os2, 0, 0, ⟨HP1.out.set9 _⟩, ⟨R_putg HF1.out (Nat.lt_succ_self g) _ _⟩, ⟨R_putg HO1.out (Nat.lt_succ_self g) _ _⟩, ⟨HB1.out.setCell (Nat.le_refl g) _⟩, ⟨by have := HLEN.out; have := HOL2.out; omega⟩, ⟨fun q => absurd rfl q⟩, ⟨fun _ => H3⟩⟩
-- END A
            · have H := H1.out
              rw [if_neg e45] at H
              have n45 : (z.toList == ([45, 45] : List UInt8)) = false := by simpa using e45
              clear e45
              by_cases eL : 1 < z.size ∧ bt z 0 = 45
              · rw [if_pos eL] at H
                have H2 := Aside0.mk H
                clear H H1
-- BEGIN L 16
                obtain ⟨Af, cf, rfl⟩ := Kd.R_slice HF.out
                obtain ⟨Ao, co, rfl⟩ := Kd.R_slice HO.out
                rcases hlf : letF l z rest.head? (z.size + 1) 1 s1 frs with _ | ⟨s', frs', n, er'⟩
                · have H := H2.out
                  rw [hlf] at H
                  cases H
                · have H := H2.out
                  rw [hlf] at H
                  have H3 : Aside0 ((if er' = 0 then parseL l k1 ((z :: rest).drop n.toNat) (i + n.toNat) s' frs' os else some (.inl (er', (i : Int)))).bind (endF xs.length) = some r) := ⟨H⟩
                  clear H H2
                  have hll := letF_len hlf
                  obtain ⟨aT, haT⟩ : ∃ aT : Int, aT = if er' = 0 then 0 else (i : Int) := ⟨_, rfl⟩
                  have KEY := Aside0.mk (refletters_calls wr s1 s' Af cf frs frs' Ao os.length co (z.size + 1) n er' aT xs (some ad) c0 i z rest A1 c1 l (Kd.R_reads' HF.out).2.2 (by have h1 := HLEN.out; have h2 := HN.out; omega) (Kd.C_below HC1.out HBW.out) HL.out HDD.out (Kd.C_below HC0.out HBW.out) (by have := HN.out; omega) HDR.out HZZ.out haT hlf)
                  have HX0 : Aside0 (er' = 0 → wrap64 ((i : Int) + n) = ((i + n.toNat : Nat) : Int) ∧ (frs'.length ≤ i + n.toNat ∧ os.length ≤ i + n.toNat ∧ i + n.toNat ≤ xs.length) ∧ xs.drop (i + n.toNat) = (z :: rest).drop n.toNat) := ⟨fun hz0 => by
                    have hn2 : n = 1 ∨ (n = 2 ∧ ∃ t, rest.head? = some t) := hll.2.1 hz0
                    have h4 := congrArg List.length HDR.out
                    simp only [List.length_drop, List.length_cons] at h4
                    have h5 := HLEN.out
                    have h6 := hll.1
                    have h7 := HLT.out
                    have h8 := HN.out
                    have hdp : xs.drop (i + n.toNat) = (z :: rest).drop n.toNat := by rw [← HDR.out, List.drop_drop]
                    rcases hn2 with rfl | ⟨rfl, t, ht⟩
                    · refine ⟨?_, ⟨?_, ?_, ?_⟩, hdp⟩
                      · show wrap64 ((i : Int) + 1) = ((i + 1 : Nat) : Int)
                        unfold wrap64; omega
                      · show _ ≤ i + 1; omega
                      · show _ ≤ i + 1; omega
                      · show i + 1 ≤ _; omega
                    · rcases rest with _ | ⟨y, r2⟩
                      · cases ht
                      · simp only [List.length_cons] at h4
                        refine ⟨?_, ⟨?_, ?_, ?_⟩, hdp⟩
                        · show wrap64 ((i : Int) + 2) = ((i + 2 : Nat) : Int)
                          unfold wrap64; omega
                        · show _ ≤ i + 2; omega
                        · show _ ≤ i + 2; omega
                        · show i + 2 ≤ _; omega⟩
                  have HX1 : Aside0 (frs'.length ≤ i + 1 ∧ os.length ≤ i + 1 ∧ i + 1 ≤ xs.length) := ⟨by have h5 := HLEN.out; have h6 := hll.1; have h7 := HLT.out; omega⟩
                  have HAT := Aside0.mk haT
                  clear hlf hll haT
                  have t5 : decide ((z.size : Int) > 1) = true := decide_eq_true (by have := eL.1; omega)
                  have t6 : decide ((1 : Int) < (z.size : Int)) = true := decide_eq_true (by have := eL.1; omega)
                  have hbt0 : ∀ (h : 0 < z.size), (((z[0]'h).toNat : Nat) : Int) = bt z 0 := fun h => bt_at z (0 : Int) h
                  have e0 := eL.2
                  have q0 : ((0 : Int) < (z.size : Int)) = True := eq_true (by have := eL.1; omega)
                  have q1 : (0 < z.size) = True := eq_true (by have := eL.1; omega)
                  clear eL
                  go_wp2_with (go_at_call 29; refine Aside0.out ?_)
                  refine ⟨?_⟩
                  have hk := KEY.out
                  unfold pagg at hk
                  refine hk.mono ?_
                  rintro e w2 ⟨v2, m, rfl, hm, hv2, hb2⟩
                  obtain ⟨A2, m2, c2, hv3⟩ : ∃ A2 m2 c2, v2 = .slice A2 m2 c2 := by
                    rcases hv2 with ⟨h, _⟩ | h
                    · exact ⟨_, _, _, h⟩
                    · obtain ⟨A2, c2, h⟩ := Kd.R_slice h
                      exact ⟨_, _, _, h⟩
                  subst hv3
                  have HF2 := Aside0.mk (FR_new HF.out HO.out hb2 HP.out.lt hv2)
                  have HO2 := Aside0.mk (R_old HO.out hb2)
                  have HP2 := Aside0.mk (HP.out.below hb2)
                  have HB2 := Aside0.mk (HB.out.trans (hb2.mono (Nat.le_of_lt HP.out.lt)))
                  have HM := Aside0.mk hm
                  clear hk hv2 hb2 hm cp fp
                  unfold pagg
                  have cp := HP2.out.c
                  have fp := HP2.out.f
                  have HPQ := Aside0.mk (HP2.out.below (below_alloc (Below.refl _ _) (.cells #[.bool s'.q, .bool s'.x, .bool s'.a, .bool s'.i, .string ⟨#[]⟩, .int .u8 s'.en, .string s'.lo, .slice none 0 0, .slice A2 m2 c2, .slice Ao os.length co, .int .i64 er', .int .i64 aT] 74)))
                  have cq := HPQ.out.c
                  have fq := HPQ.out.f
                  go_wp2
                  have HG2 := put12_at (s := s') (frv := .slice A2 m2 c2) (ov := .slice Ao os.length co) (er := er') (at_ := aT) HPQ.out
                  have HFQ := put12_Rg (s := s') (frv := .slice A2 m2 c2) (ov := .slice Ao os.length co) (er := er') (at_ := aT) (Kd.R_alloc HF2.out (.cells #[.bool s'.q, .bool s'.x, .bool s'.a, .bool s'.i, .string ⟨#[]⟩, .int .u8 s'.en, .string s'.lo, .slice none 0 0, .slice A2 m2 c2, .slice Ao os.length co, .int .i64 er', .int .i64 aT] 74)) (Nat.lt_succ_self g)
                  have HOQ := put12_Rg (s := s') (frv := .slice A2 m2 c2) (ov := .slice Ao os.length co) (er := er') (at_ := aT) (Kd.R_alloc HO2.out (.cells #[.bool s'.q, .bool s'.x, .bool s'.a, .bool s'.i, .string ⟨#[]⟩, .int .u8 s'.en, .string s'.lo, .slice none 0 0, .slice A2 m2 c2, .slice Ao os.length co, .int .i64 er', .int .i64 aT] 74)) (Nat.lt_succ_self g)
                  have HBQ := put12_below (s := s') (frv := .slice A2 m2 c2) (ov := .slice Ao os.length co) (er := er') (at_ := aT) (g := g) (HB2.out.trans ((below_alloc (Below.refl w2.heap.size w2) (.cells #[.bool s'.q, .bool s'.x, .bool s'.a, .bool s'.i, .string ⟨#[]⟩, .int .u8 s'.en, .string s'.lo, .slice none 0 0, .slice A2 m2 c2, .slice Ao os.length co, .int .i64 er', .int .i64 aT] 74)).mono (Nat.le_of_lt HP2.out.lt))) (Nat.le_refl g)
                  go_roundg k1
                  case measure => omega
                  case rel =>
                    by_cases hz0 : er' = 0
                    · have hmn := HM.out hz0
                      have h3 := H3.out
                      rw [if_pos hz0] at h3
                      have haT := HAT.out
                      rw [if_pos hz0] at haT
                      have hx0 := HX0.out hz0
                      rw [← hmn] at hx0
                      refine ⟨((i + m.toNat : Nat) : Int), i + m.toNat, s', _, _, frs', os, er', aT, ?_, ⟨HG2⟩, ⟨HFQ⟩, ⟨HOQ⟩, ⟨HBQ⟩, ⟨hx0.2.1⟩, ⟨fun q => absurd hz0 q⟩, ⟨fun _ => ⟨rfl, haT, ?_⟩⟩⟩
                      · rw [hx0.1]
                      · rw [hx0.2.2, hmn]; exact h3
                    · have h3 := H3.out
                      rw [if_neg hz0] at h3
                      have haT := HAT.out
                      rw [if_neg hz0] at haT
                      refine ⟨wrap64 ((i : Int) + m), i + 1, s', _, _, frs', os, er', aT, rfl, ⟨HG2⟩, ⟨HFQ⟩, ⟨HOQ⟩, ⟨HBQ⟩, ⟨HX1.out⟩, ⟨fun _ => ?_⟩, ⟨fun q => absurd q hz0⟩⟩
                      rw [haT]
                      exact (Option.some.inj h3).symm
-- END L
              · rw [if_neg eL] at H
                have H2 := Aside0.mk H
                clear H H1
                by_cases eS : 1 < z.size
                · have nb : (bt z 0 == 45) = false := beq_eq_false_iff_ne.2 (fun q => eL ⟨eS, q⟩)
                  have t5 : decide ((z.size : Int) > 1) = true := decide_eq_true (by omega)
                  have t6 : decide ((1 : Int) < (z.size : Int)) = true := decide_eq_true (by omega)
                  have hbt0 : ∀ (h : 0 < z.size), (((z[0]'h).toNat : Nat) : Int) = bt z 0 := fun h => bt_at z (0 : Int) h
                  have q0 : ((0 : Int) < (z.size : Int)) = True := eq_true (by omega)
                  have q1 : (0 < z.size) = True := eq_true (by omega)
                  clear eL eS
-- BEGIN O 18
                  obtain ⟨Af, cf, rfl⟩ := Kd.R_slice HF.out
                  obtain ⟨Ao, co, rfl⟩ := Kd.R_slice HO.out
                  have HLT2 : Aside0 (g + 1 ≤ wr.drew.heap.size) := ⟨HP.out.lt⟩
                  have HLN : Aside0 ((os.length + 1) * 16 ≤ 140737488355328) := ⟨by have h1 := HLEN.out; have h3 := HN.out; omega⟩
                  have HW1 : Aside0 (wrap64 ((i : Int) + 1) = ((i + 1 : Nat) : Int)) := ⟨by have h1 := HN.out; have h2 := HLT.out; unfold wrap64; omega⟩
                  obtain ⟨os2, hos2⟩ : ∃ os2, os2 = os ++ [z] := ⟨_, rfl⟩
                  have HOL2 : Aside0 (os2.length = os.length + 1) := ⟨by rw [hos2]; simp⟩
                  have HOS := Aside0.mk hos2
                  clear hos2
                  go_wp2
                  refine start_ (n := 10) (S := fun w' => PC w' g s1 (.slice Af frs.length cf) (.slice Ao os.length co) ∧ w'.cell? (ad.add i) = some (.string z)) (ds := [9]) #[false, false, false, false, false, false, false, false, false, false] (by kernel_rfl) rfl rfl (⟨(HP.out.of (W' := wr.drew) rfl).c, HXI.out wr.drew (below_drew1 HBW.out)⟩) (fun hHeld => ?_)
                  refine pure_ (i := 0) (N := some 65) (v := ?_) (a' := ?_) #[true, false, false, false, false, false, false, false, false, false] rfl rfl (by kernel_rfl) (fun _ _ _ h => h) (Or.inl ⟨by rfl, ?_⟩) ?_ ?_
                  rotate_left
                  · intro w'
                    go_simp
                    try with_reducible rfl
                  rotate_left
                  · simp only [Act.put, List.setIfInBounds_toArray, List.set_cons_zero, List.set_cons_succ]
                    rfl
                  refine take_ (i := 1) (N := some 66) (v := ?_) (a' := ?_) #[true, true, false, false, false, false, false, false, false, false] rfl rfl (by kernel_rfl) (fun _ _ _ h => h) (Or.inl ⟨by rfl, ?_⟩) hHeld ?_ ?_
                  rotate_left
                  · rintro w' ⟨⟨s0, s1_, s2_, s3, s4, s5, s6, s7, s8, s9, s10, s11⟩, s12⟩
                    go_simp
                    try with_reducible rfl
                  rotate_left
                  · simp only [Act.put, List.setIfInBounds_toArray, List.set_cons_zero, List.set_cons_succ]
                    rfl
                  refine pure_ (i := 2) (N := some 67) (v := ?_) (a' := ?_) #[true, true, true, false, false, false, false, false, false, false] rfl rfl (by kernel_rfl) (fun _ _ _ h => h) (Or.inl ⟨by rfl, ?_⟩) ?_ ?_
                  rotate_left
                  · intro w'
                    go_simp
                    try with_reducible rfl
                  rotate_left
                  · simp only [Act.put, List.setIfInBounds_toArray, List.set_cons_zero, List.set_cons_succ]
                    rfl
                  refine pure_ (i := 3) (N := some 68) (v := ?_) (a' := ?_) #[true, true, true, true, false, false, false, false, false, false] rfl rfl (by kernel_rfl) (fun _ _ _ h => h) (Or.inl ⟨by rfl, ?_⟩) ?_ ?_
                  rotate_left
                  · intro w'
                    go_simp
                    try with_reducible rfl
                  rotate_left
                  · simp only [Act.put, List.setIfInBounds_toArray, List.set_cons_zero, List.set_cons_succ]
                    rfl
                  refine pure_ (i := 4) (N := some 69) (v := ?_) (a' := ?_) #[true, true, true, true, true, false, false, false, false, false] rfl rfl (by kernel_rfl) (fun _ _ _ h => h) (Or.inl ⟨by rfl, ?_⟩) ?_ ?_
                  rotate_left
                  · intro w'
                    go_simp
                    try with_reducible rfl
                  rotate_left
                  · simp only [Act.put, List.setIfInBounds_toArray, List.set_cons_zero, List.set_cons_succ]
                    rfl
                  refine take_ (i := 5) (N := some 70) (v := ?_) (a' := ?_) #[true, true, true, true, true, true, false, false, false, false] rfl rfl (by kernel_rfl) (fun _ _ _ h => h) (Or.inl ⟨by rfl, ?_⟩) hHeld ?_ ?_
                  rotate_left
                  · rintro w' ⟨⟨s0, s1_, s2_, s3, s4, s5, s6, s7, s8, s9, s10, s11⟩, s12⟩
                    go_simp
                    try with_reducible rfl
                  rotate_left
                  · simp only [Act.put, List.setIfInBounds_toArray, List.set_cons_zero, List.set_cons_succ]
                    rfl
                  refine one_ (i := 6) (N := some 71) #[true, true, true, true, true, true, true, false, false, false] rfl rfl (by kernel_rfl) (by decide) (fun K hK => ?_)
                  refine value_ (w1 := wr.drew.alloc (.cells #[.string z] 9)) (v := .slice (some ⟨wr.drew.heap.size, 0, none⟩) 1 1) (by rfl) rfl (by go_simp) ?_
                  refine hK.out _ _ (⟨((HP.out.of (W' := wr.drew) rfl).below (below_alloc (Below.refl _ _) _)).c, HXI.out _ (below_alloc (below_drew1 HBW.out) _)⟩) (fun hHeld => ?_)
                  clear hK K
                  refine norm_ (a' := ?_) ?_ ?_
                  rotate_left
                  · show Act.put _ (some 71) _ = _
                    simp only [Act.put, List.setIfInBounds_toArray, List.set_cons_zero, List.set_cons_succ]
                    rfl
                  refine one_ (i := 7) (N := some 72) #[true, true, true, true, true, true, true, true, false, false] rfl rfl (by kernel_rfl) (by decide) (fun K hK => ?_)
                  refine Kd.R_append_step Kd.string (w0 := wr.drew) (W := wr.drew) (g + 1) (by rfl) (.tmp 66) (.tmp 71) 22 9 (.string ⟨#[]⟩) 16 rfl Tryd.underlying22 PX.info9 rfl (by decide) (by decide) (.slice Ao os.length co) os z [.string z] (fun _ => True) (fun _ => False) rfl rfl rfl (fun _ hk => hk.elim) (fun _ _ => trivial) (Kd.R_drew HO.out) (Below.refl _ _) HLT2.out HLN.out ?_
                  intro v1 w1 ho hb1 hg1 hat1
                  rw [← HOS.out] at ho
                  obtain ⟨A3, c3, hv1⟩ := Kd.R_slice ho
                  subst hv1
                  have HP1 := Aside0.mk ((HP.out.of (W' := wr.drew) rfl).of (hb1.block g (Nat.lt_succ_self g)))
                  have HF1 := Aside0.mk (FR_app (Kd.R_drew HF.out) hg1 hat1)
                  have HO1 := Aside0.mk ho
                  have HB1 := Aside0.mk ((below_drew1 HB.out).trans (hb1.mono (Nat.le_succ g)))
                  have HXW := HXI.out w1 (HB0.out.trans (HB1.out.mono (by rw [HG.out]; omega)))
                  clear ho hb1 hg1 hat1
                  refine hK.out _ _ (⟨HP1.out.c, HXW⟩) (fun hHeld => ?_)
                  clear hK K
                  refine norm_ (a' := ?_) ?_ ?_
                  rotate_left
                  · show Act.put _ (some 72) _ = _
                    simp only [Act.put, List.setIfInBounds_toArray, List.set_cons_zero, List.set_cons_succ]
                    rfl
                  refine pure_ (i := 8) (N := some 73) (v := ?_) (a' := ?_) #[true, true, true, true, true, true, true, true, true, false] rfl rfl (by kernel_rfl) (fun _ _ _ h => h) (Or.inl ⟨by rfl, ?_⟩) ?_ ?_
                  rotate_left
                  · intro w'
                    go_simp
                    try with_reducible rfl
                  rotate_left
                  · simp only [Act.put, List.setIfInBounds_toArray, List.set_cons_zero, List.set_cons_succ]
                    rfl
                  refine last_ (i := 9) (N := none) #[true, true, true, true, true, true, true, true, true, true] rfl rfl (by kernel_rfl) (by decide) (fun K hK => ?_)
                  have fz := HP1.out.f
                  have cz := HP1.out.c
                  refine skip_ (w1 := w1.setCell ⟨g, 9, none⟩ (.slice A3 os2.length c3)) (by rfl) rfl (by first | (go_simp; done) | (go_simp; rfl)) ?_
                  refine hK.out _ _ ?_
                  clear hK K
                  refine done_ (by kernel_rfl) ?_
                  have H3 := Aside0.mk H2.out
                  have HDN : Aside0 (xs.drop (i + 1) = rest) := ⟨by
                    have h1 := congrArg (List.drop 1) HDR.out
                    rw [List.drop_drop] at h1
                    exact h1⟩
                  go_wp2
                  go_roundg k1
                  case measure => omega
                  case rel => exact ⟨((i + 1 : Nat) : Int), i + 1, s1, _, .slice A3 os2.length c3, frs, os2, 0, 0, (by rw [HW1.out]), ⟨HP1.out.set9 _⟩, ⟨R_putg HF1.out (Nat.lt_succ_self g) _ _⟩, ⟨R_putg HO1.out (Nat.lt_succ_self g) _ _⟩, ⟨HB1.out.setCell (Nat.le_refl g) _⟩, ⟨by have := HLEN.out; have := HOL2.out; have := HLT.out; omega⟩, ⟨fun q => absurd rfl q⟩, ⟨fun _ => ⟨rfl, rfl, by rw [HDN.out, HOS.out]; exact H3.out⟩⟩⟩
-- END O
                · have t5 : decide ((z.size : Int) > 1) = false := decide_eq_false (by omega)
                  have t6 : decide ((1 : Int) < (z.size : Int)) = false := decide_eq_false (by omega)
                  clear eL eS
-- BEGIN O 18
                  obtain ⟨Af, cf, rfl⟩ := Kd.R_slice HF.out
                  obtain ⟨Ao, co, rfl⟩ := Kd.R_slice HO.out
                  have HLT2 : Aside0 (g + 1 ≤ wr.drew.heap.size) := ⟨HP.out.lt⟩
                  have HLN : Aside0 ((os.length + 1) * 16 ≤ 140737488355328) := ⟨by have h1 := HLEN.out; have h3 := HN.out; omega⟩
                  have HW1 : Aside0 (wrap64 ((i : Int) + 1) = ((i + 1 : Nat) : Int)) := ⟨by have h1 := HN.out; have h2 := HLT.out; unfold wrap64; omega⟩
                  obtain ⟨os2, hos2⟩ : ∃ os2, os2 = os ++ [z] := ⟨_, rfl⟩
                  have HOL2 : Aside0 (os2.length = os.length + 1) := ⟨by rw [hos2]; simp⟩
                  have HOS := Aside0.mk hos2
                  clear hos2
                  go_wp2
                  refine start_ (n := 10) (S := fun w' => PC w' g s1 (.slice Af frs.length cf) (.slice Ao os.length co) ∧ w'.cell? (ad.add i) = some (.string z)) (ds := [9]) #[false, false, false, false, false, false, false, false, false, false] (by kernel_rfl) rfl rfl (⟨(HP.out.of (W' := wr.drew) rfl).c, HXI.out wr.drew (below_drew1 HBW.out)⟩) (fun hHeld => ?_)
                  refine pure_ (i := 0) (N := some 65) (v := ?_) (a' := ?_) #[true, false, false, false, false, false, false, false, false, false] rfl rfl (by kernel_rfl) (fun _ _ _ h => h) (Or.inl ⟨by rfl, ?_⟩) ?_ ?_
                  rotate_left
                  · intro w'
                    go_simp
                    try with_reducible rfl
                  rotate_left
                  · simp only [Act.put, List.setIfInBounds_toArray, List.set_cons_zero, List.set_cons_succ]
                    rfl
                  refine take_ (i := 1) (N := some 66) (v := ?_) (a' := ?_) #[true, true, false, false, false, false, false, false, false, false] rfl rfl (by kernel_rfl) (fun _ _ _ h => h) (Or.inl ⟨by rfl, ?_⟩) hHeld ?_ ?_
                  rotate_left
                  · rintro w' ⟨⟨s0, s1_, s2_, s3, s4, s5, s6, s7, s8, s9, s10, s11⟩, s12⟩
                    go_simp
                    try with_reducible rfl
                  rotate_left
                  · simp only [Act.put, List.setIfInBounds_toArray, List.set_cons_zero, List.set_cons_succ]
                    rfl
                  refine pure_ (i := 2) (N := some 67) (v := ?_) (a' := ?_) #[true, true, true, false, false, false, false, false, false, false] rfl rfl (by kernel_rfl) (fun _ _ _ h => h) (Or.inl ⟨by rfl, ?_⟩) ?_ ?_
                  rotate_left
                  · intro w'
                    go_simp
                    try with_reducible rfl
                  rotate_left
                  · simp only [Act.put, List.setIfInBounds_toArray, List.set_cons_zero, List.set_cons_succ]
                    rfl
                  refine pure_ (i := 3) (N := some 68) (v := ?_) (a' := ?_) #[true, true, true, true, false, false, false, false, false, false] rfl rfl (by kernel_rfl) (fun _ _ _ h => h) (Or.inl ⟨by rfl, ?_⟩) ?_ ?_
                  rotate_left
                  · intro w'
                    go_simp
                    try with_reducible rfl
                  rotate_left
                  · simp only [Act.put, List.setIfInBounds_toArray, List.set_cons_zero, List.set_cons_succ]
                    rfl
                  refine pure_ (i := 4) (N := some 69) (v := ?_) (a' := ?_) #[true, true, true, true, true, false, false, false, false, false] rfl rfl (by kernel_rfl) (fun _ _ _ h => h) (Or.inl ⟨by rfl, ?_⟩) ?_ ?_
                  rotate_left
                  · intro w'
                    go_simp
                    try with_reducible rfl
                  rotate_left
                  · simp only [Act.put, List.setIfInBounds_toArray, List.set_cons_zero, List.set_cons_succ]
                    rfl
                  refine take_ (i := 5) (N := some 70) (v := ?_) (a' := ?_) #[true, true, true, true, true, true, false, false, false, false] rfl rfl (by kernel_rfl) (fun _ _ _ h => h) (Or.inl ⟨by rfl, ?_⟩) hHeld ?_ ?_
                  rotate_left
                  · rintro w' ⟨⟨s0, s1_, s2_, s3, s4, s5, s6, s7, s8, s9, s10, s11⟩, s12⟩
                    go_simp
                    try with_reducible rfl
                  rotate_left
                  · simp only [Act.put, List.setIfInBounds_toArray, List.set_cons_zero, List.set_cons_succ]
                    rfl
                  refine one_ (i := 6) (N := some 71) #[true, true, true, true, true, true, true, false, false, false] rfl rfl (by kernel_rfl) (by decide) (fun K hK => ?_)
                  refine value_ (w1 := wr.drew.alloc (.cells #[.string z] 9)) (v := .slice (some ⟨wr.drew.heap.size, 0, none⟩) 1 1) (by rfl) rfl (by go_simp) ?_
                  refine hK.out _ _ (⟨((HP.out.of (W' := wr.drew) rfl).below (below_alloc (Below.refl _ _) _)).c, HXI.out _ (below_alloc (below_drew1 HBW.out) _)⟩) (fun hHeld => ?_)
                  clear hK K
                  refine norm_ (a' := ?_) ?_ ?_
                  rotate_left
                  · show Act.put _ (some 71) _ = _
                    simp only [Act.put, List.setIfInBounds_toArray, List.set_cons_zero, List.set_cons_succ]
                    rfl
                  refine one_ (i := 7) (N := some 72) #[true, true, true, true, true, true, true, true, false, false] rfl rfl (by kernel_rfl) (by decide) (fun K hK => ?_)
                  refine Kd.R_append_step Kd.string (w0 := wr.drew) (W := wr.drew) (g + 1) (by rfl) (.tmp 66) (.tmp 71) 22 9 (.string ⟨#[]⟩) 16 rfl Tryd.underlying22 PX.info9 rfl (by decide) (by decide) (.slice Ao os.length co) os z [.string z] (fun _ => True) (fun _ => False) rfl rfl rfl (fun _ hk => hk.elim) (fun _ _ => trivial) (Kd.R_drew HO.out) (Below.refl _ _) HLT2.out HLN.out ?_
                  intro v1 w1 ho hb1 hg1 hat1
                  rw [← HOS.out] at ho
                  obtain ⟨A3, c3, hv1⟩ := Kd.R_slice ho
                  subst hv1
                  have HP1 := Aside0.mk ((HP.out.of (W' := wr.drew) rfl).of (hb1.block g (Nat.lt_succ_self g)))
                  have HF1 := Aside0.mk (FR_app (Kd.R_drew HF.out) hg1 hat1)
                  have HO1 := Aside0.mk ho
                  have HB1 := Aside0.mk ((below_drew1 HB.out).trans (hb1.mono (Nat.le_succ g)))
                  have HXW := HXI.out w1 (HB0.out.trans (HB1.out.mono (by rw [HG.out]; omega)))
                  clear ho hb1 hg1 hat1
                  refine hK.out _ _ (⟨HP1.out.c, HXW⟩) (fun hHeld => ?_)
                  clear hK K
                  refine norm_ (a' := ?_) ?_ ?_
                  rotate_left
                  · show Act.put _ (some 72) _ = _
                    simp only [Act.put, List.setIfInBounds_toArray, List.set_cons_zero, List.set_cons_succ]
                    rfl
                  refine pure_ (i := 8) (N := some 73) (v := ?_) (a' := ?_) #[true, true, true, true, true, true, true, true, true, false] rfl rfl (by kernel_rfl) (fun _ _ _ h => h) (Or.inl ⟨by rfl, ?_⟩) ?_ ?_
                  rotate_left
                  · intro w'
                    go_simp
                    try with_reducible rfl
                  rotate_left
                  · simp only [Act.put, List.setIfInBounds_toArray, List.set_cons_zero, List.set_cons_succ]
                    rfl
                  refine last_ (i := 9) (N := none) #[true, true, true, true, true, true, true, true, true, true] rfl rfl (by kernel_rfl) (by decide) (fun K hK => ?_)
                  have fz := HP1.out.f
                  have cz := HP1.out.c
                  refine skip_ (w1 := w1.setCell ⟨g, 9, none⟩ (.slice A3 os2.length c3)) (by rfl) rfl (by first | (go_simp; done) | (go_simp; rfl)) ?_
                  refine hK.out _ _ ?_
                  clear hK K
                  refine done_ (by kernel_rfl) ?_
                  have H3 := Aside0.mk H2.out
                  have HDN : Aside0 (xs.drop (i + 1) = rest) := ⟨by
                    have h1 := congrArg (List.drop 1) HDR.out
                    rw [List.drop_drop] at h1
                    exact h1⟩
                  go_wp2
                  go_roundg k1
                  case measure => omega
                  case rel => exact ⟨((i + 1 : Nat) : Int), i + 1, s1, _, .slice A3 os2.length c3, frs, os2, 0, 0, (by rw [HW1.out]), ⟨HP1.out.set9 _⟩, ⟨R_putg HF1.out (Nat.lt_succ_self g) _ _⟩, ⟨R_putg HO1.out (Nat.lt_succ_self g) _ _⟩, ⟨HB1.out.setCell (Nat.le_refl g) _⟩, ⟨by have := HLEN.out; have := HOL2.out; have := HLT.out; omega⟩, ⟨fun q => absurd rfl q⟩, ⟨fun _ => ⟨rfl, rfl, by rw [HDN.out, HOS.out]; exact H3.out⟩⟩⟩
-- END O
          · have t3 : decide ((i : Int) < (xs.length : Int)) = false := decide_eq_false (by omega)
            have hi : i = xs.length := by have := HLEN.out.2.2; omega
            rw [List.drop_eq_nil_of_le (by omega)] at hH
            have HX : endF xs.length (.inr (s1, frs, os)) = some r := by
              rcases gk with _ | k1
              · exact absurd hH (by simp [parseL])
              · exact hH
            have HXX := Aside0.mk HX
            clear hH HX HE0
            go_wp2
            go_meet
            case rel => exact ⟨s1, frv, ov, frs, os, 0, 0, HP, HF, HO, HB, ⟨by have := HLEN.out; omega⟩, ⟨fun q => absurd rfl q⟩, ⟨fun _ => HXX.out⟩⟩
        · have t4 : (er == 0) = false := beq_eq_false_iff_ne.2 he
          have HNE := Aside0.mk he
          clear he
          by_cases hlt : x < (xs.length : Int)
          · have t3 : decide (x < (xs.length : Int)) = true := decide_eq_true hlt
            clear hlt
            go_wp2
            go_meet
            case rel => exact ⟨s1, frv, ov, frs, os, er, at_, HP, HF, HO, HB, ⟨by have := HLEN.out; omega⟩, HE, ⟨fun q => absurd q HNE.out⟩⟩
          · have t3 : decide (x < (xs.length : Int)) = false := decide_eq_false hlt
            clear hlt
            go_wp2
            go_meet
            case rel => exact ⟨s1, frv, ov, frs, os, er, at_, HP, HF, HO, HB, ⟨by have := HLEN.out; omega⟩, HE, ⟨fun q => absurd q HNE.out⟩⟩
    case rest =>
-- BEGIN R 6
      obtain ⟨s1, frv, ov, frs, os, er, at_, HP, HF, HO, HB, HLEN, HE, HE0⟩ := hcut
      clear HP0 HH
      have HBW : Aside0 (Below w.heap.size w wc) := ⟨HB0.out.trans (HB.out.mono (by rw [HG.out]; omega))⟩
      have HRS : Aside0 (ResAt wc w.heap.size) := ⟨HR0.out.of (HB.out.block w.heap.size (by rw [HG.out]; omega))⟩
      have HRX := HR0
      have HBX := HB0
      clear HR0 HB0
      obtain ⟨Af, cf, rfl⟩ := Kd.R_slice HF.out
      obtain ⟨Ao, co, rfl⟩ := Kd.R_slice HO.out
      have cp := HP.out.c
      have fp := HP.out.f
      go_step
      by_cases he : er = 0
      · subst he
        have t4 : ((0 : Int) != 0) = false := rfl
        go_upto_region 17 with (fail)
        obtain ⟨W5, hW5⟩ : ∃ W5, W5 = wc := ⟨_, rfl⟩
        rw [← hW5] at HP HF HO HB HBW HRS cp fp ⊢
        clear hW5
        go_cut [88] (fun v88 w5 => v88 = .bool ((frs.length : Int) == 0) ∧ w5 = W5)
        case first =>
          go_wp2
          go_meet
          case rel => exact ⟨rfl, rfl⟩
        case rest =>
          obtain ⟨rfl, hwc⟩ := hcut
          subst wc
          go_step
          go_cut [] (fun w5 => ∃ (frA : Option Addr) (frc : Nat) (oA : Option Addr) (oc : Nat) (frs2 os2 : List ByteArray), Aside0 (PAt w5 g s1 (.slice frA frs2.length frc) (.slice oA os2.length oc) 0 at_) ∧ Aside0 (Kd.R Kd.string 9 w5 (g + 1) (fun _ => True) (.slice frA frs2.length frc) frs2) ∧ Aside0 (Kd.Q Kd.string 9 w5 (g + 1) (fun _ => True) (.slice oA os2.length oc) os2) ∧ Aside0 (Below g W1 w5) ∧ Aside0 (frs2.length ≤ 1000 ∧ 0 < frs2.length) ∧ Aside0 (fin s1 frs2 os2 = some r))
          case first =>
            rcases frs with _ | ⟨f0, frs'⟩
            · rcases os with _ | ⟨o, os'⟩
              · have hr : r = noJob 1 (xs.length : Int) := (Option.some.inj (HE0.out rfl)).symm
                subst hr
                have fr := HRS.out.f
                have cr := HRS.out.c
                go_wp2
                refine bodyPost_ret (results_ctt rfl _ _ w.heap.size 24 _ (0, 0) _ rfl (res_zero HRS.out) Tryd.underlying24 rfl (by kernel_rfl)) rfl ?_
                exact ⟨_, rfl, Kd.Q_nil _ _ _ _ _, res_below HBW.out⟩
              · have t8 : ((([] : List ByteArray).length : Int) == 0) = true := rfl
                have HE1 : Aside0 (fin s1 [o] os' = some r) := ⟨HE0.out rfl⟩
                obtain ⟨go, cgo, hgo, hgo2, hgo3, _⟩ := Kd.R_form HO.out (by simp)
                cases hgo
                have hco := (Kd.R_reads' HO.out).2.1
                simp only [List.length_cons] at hco
                obtain ⟨ad, cc, e, hcl, hk, hc⟩ := Kd.C_get (Kd.R_reads' HO.out).2.2 ByteArray.empty 0 (by decide) (by simp only [List.length_cons]; omega)
                cases e
                have hk2 : cc = [.string o] := hk
                subst hk2
                have hxo : W5.cell? ⟨go, 0, none⟩ = some (.string o) := by
                  have h3 := hc 0 _ rfl
                  exact h3
                have hxd : W5.drew.cell? ⟨go, 0, none⟩ = some (.string o) := hxo
                have HQ0 : Aside0 (Kd.Q Kd.string 9 W5 (g + 1) (fun _ => True) (.slice (if co = 1 then some ⟨go, 0, none⟩ else (some (⟨go, 0, none⟩ : Addr)).map (·.add (1 * 1))) os'.length (co - 1)) os') := ⟨Kd.Q_drop (k := 1) (Kd.Q_of_R HO.out) (by simp)⟩
                obtain ⟨no, hno⟩ : ∃ no, no = (o :: os').length := ⟨_, rfl⟩
                rw [← hno] at cp HP HO HF
                simp only [List.length_cons] at hno
                have t9 : ((no : Int) == 0) = false := beq_eq_false_iff_ne.2 (by omega)
                have q0 : ((0 : Int) < (no : Int)) = True := eq_true (by omega)
                have q1 : (0 < no) = True := eq_true (by omega)
                obtain ⟨i09, hi09, _, hsz9, _⟩ := info_parts PX.info9
                obtain ⟨FV, hFV⟩ : ∃ FV : Option Addr, FV = (if co = 1 then some ⟨go, 0, none⟩ else (some (⟨go, 0, none⟩ : Addr)).map (·.add (1 * 1))) := ⟨_, rfl⟩
                rw [← hFV] at HQ0
                have hcut : ∀ W : World, (Instr.slice 22 (.slice (some ⟨go, 0, none⟩) no co) (some (.int .i64 1)) none none).run Tryd.prog W = .ok (.slice FV os'.length (co - 1)) W := fun W => by
                  have h5 := cut_from (P := Tryd.prog) 22 9 .i64 Tryd.underlying22 hi09 1 hsz9 (some ⟨go, 0, none⟩) no co 1 (by decide) (by omega) W
                  rw [h5, hFV, show no - (1 : Int).toNat = os'.length by show no - 1 = _; omega]
                  rfl
                have KEY := Aside0.mk (frag_calls W5.drew s1 Af cf [] (some ⟨go, 0, none⟩) no co 0 at_ o (Kd.R_reads' (Kd.R_drew HF.out)).2.2 (by simp))
                have HLO : Aside0 (os'.length + 1 ≤ xs.length) := ⟨by have := HLEN.out.2; simp only [List.length_cons] at this; omega⟩
                clear hFV hi09 hsz9 hgo2 hgo3 hc hk hcl hno hco
                go_wp2
                refine start_ (n := 7) (S := fun w' => PC2 w' g s1 (.slice Af ([] : List ByteArray).length cf) (.slice (some ⟨go, 0, none⟩) no co) at_ ∧ w'.cell? ⟨go, 0, none⟩ = some (.string o)) (ds := [6]) #[false, false, false, false, false, false, false] (by kernel_rfl) rfl rfl (⟨(HP.out.of (W' := W5.drew) rfl).c, hxd⟩) (fun hHeld => ?_)
                refine take_ (i := 0) (N := some 96) (v := ?_) (a' := ?_) #[true, false, false, false, false, false, false] rfl rfl (by kernel_rfl) (fun _ _ _ h => h) (Or.inl ⟨by rfl, ?_⟩) hHeld ?_ ?_
                rotate_left
                · rintro w' ⟨⟨s0, s1_, s2_, s3, s4, s5, s6, s7, s8, s9, s10, s11⟩, s12⟩
                  go_simp
                  try with_reducible rfl
                rotate_left
                · simp only [Act.put, List.setIfInBounds_toArray, List.set_cons_zero, List.set_cons_succ]
                  rfl
                refine pure_ (i := 1) (N := some 97) (v := ?_) (a' := ?_) #[true, true, false, false, false, false, false] rfl rfl (by kernel_rfl) (fun _ _ _ h => h) (Or.inl ⟨by rfl, ?_⟩) ?_ ?_
                rotate_left
                · intro w'
                  go_simp
                  try with_reducible rfl
                rotate_left
                · simp only [Act.put, List.setIfInBounds_toArray, List.set_cons_zero, List.set_cons_succ]
                  rfl
                refine take_ (i := 2) (N := some 98) (v := ?_) (a' := ?_) #[true, true, true, false, false, false, false] rfl rfl (by kernel_rfl) (fun _ _ _ h => h) (Or.inl ⟨by rfl, ?_⟩) hHeld ?_ ?_
                rotate_left
                · rintro w' ⟨⟨s0, s1_, s2_, s3, s4, s5, s6, s7, s8, s9, s10, s11⟩, s12⟩
                  go_simp
                  try with_reducible rfl
                rotate_left
                · simp only [Act.put, List.setIfInBounds_toArray, List.set_cons_zero, List.set_cons_succ]
                  rfl
                refine pure_ (i := 3) (N := some 99) (v := ?_) (a' := ?_) #[true, true, true, true, false, false, false] rfl rfl (by kernel_rfl) (fun _ _ _ h => h) (Or.inl ⟨by rfl, ?_⟩) ?_ ?_
                rotate_left
                · intro w'
                  go_simp
                  try with_reducible rfl
                rotate_left
                · simp only [Act.put, List.setIfInBounds_toArray, List.set_cons_zero, List.set_cons_succ]
                  rfl
                refine take_ (i := 4) (N := some 100) (v := ?_) (a' := ?_) #[true, true, true, true, true, false, false] rfl rfl (by kernel_rfl) (fun _ _ _ h => h) (Or.inl ⟨by rfl, ?_⟩) hHeld ?_ ?_
                rotate_left
                · rintro w' ⟨⟨s0, s1_, s2_, s3, s4, s5, s6, s7, s8, s9, s10, s11⟩, s12⟩
                  go_simp
                  try with_reducible rfl
                rotate_left
                · simp only [Act.put, List.setIfInBounds_toArray, List.set_cons_zero, List.set_cons_succ]
                  rfl
                refine one_ (i := 5) (N := some 101) #[true, true, true, true, true, true, false] rfl rfl (by kernel_rfl) (by decide) (fun K hK => ?_)
                refine goes_ Tryd.func30 (by kernel_rfl) rfl #[.agg #[.bool s1.q, .bool s1.x, .bool s1.a, .bool s1.i, .string ⟨#[]⟩, .int .u8 s1.en, .string s1.lo, .slice none 0 0, .slice Af ([] : List ByteArray).length cf, .slice (some ⟨go, 0, none⟩) no co, .int .i64 0, .int .i64 at_], .string o] (by rfl) rfl rfl (by simp only [List.map_toArray, List.map_cons, List.map_nil]; rfl) ?_
                have hk := KEY.out
                unfold pagg at hk
                refine hk.mono ?_
                rintro e w2 ⟨v2, rfl, hr2, hb2⟩
                rw [List.nil_append] at hr2
                obtain ⟨A2, c2, hv2⟩ := Kd.R_slice hr2
                subst hv2
                have HR2 := Aside0.mk (Kd.R_lower hr2 (show g + 1 ≤ W5.drew.heap.size from HP.out.lt))
                have HP2 := Aside0.mk ((HP.out.of (W' := W5.drew) rfl).below hb2)
                have HQ2 := Aside0.mk (Kd.Q_below (Kd.Q_drew HQ0.out) hb2)
                have HB2 := Aside0.mk ((below_drew1 HB.out).trans (hb2.mono (Nat.le_of_lt HP.out.lt)))
                have HXO : Aside0 (w2.cell? ⟨go, 0, none⟩ = some (.string o)) := ⟨(hb2.cell (World.block_lt_of_cell? W5.drew _ hxd)).trans hxd⟩
                clear hk hr2 hb2
                refine ⟨_, rfl, ?_⟩
                refine hK.out _ _ (⟨HP2.out.c, HXO.out⟩) (fun hHeld => ?_)
                clear hK K
                refine norm_ (a' := ?_) ?_ ?_
                rotate_left
                · show Act.put _ (some 101) _ = _
                  simp only [Act.put, List.setIfInBounds_toArray, List.set_cons_zero, List.set_cons_succ]
                  rfl
                refine last_ (i := 6) (N := none) #[true, true, true, true, true, true, true] rfl rfl (by kernel_rfl) (by decide) (fun K hK => ?_)
                have fp := HP2.out.f
                have cp := HP2.out.c
                obtain ⟨W4, hW4⟩ : ∃ W4, W4 = put12 w2 g s1 (.slice A2 1 c2) (.slice (some ⟨go, 0, none⟩) no co) 0 at_ := ⟨_, rfl⟩
                refine skip_ (w1 := W4) (by rfl) rfl (by first | (go_simp; done) | (go_simp; rw [hW4])) ?_
                refine hK.out _ _ ?_
                clear hK K
                refine done_ (by kernel_rfl) ?_
                have HG := put12_at (s := s1) (frv := .slice A2 1 c2) (ov := .slice (some ⟨go, 0, none⟩) no co) (er := 0) (at_ := at_) HP2.out
                rw [← hW4] at HG
                have HR4 : Kd.R Kd.string 9 W4 (g + 1) (fun _ => True) (.slice A2 1 c2) [o] := by rw [hW4]; exact put12_Rg HR2.out (Nat.lt_succ_self g)
                have HQ4 : Kd.Q Kd.string 9 W4 (g + 1) (fun _ => True) (.slice FV os'.length (co - 1)) os' := by rw [hW4]; exact put12_Q HQ2.out (Nat.lt_succ_self g)
                have HB4 : Below g W1 W4 := by rw [hW4]; exact put12_below HB2.out (Nat.le_refl g)
                have HG4 := Aside0.mk HG
                have HR5 := Aside0.mk HR4
                have HQ5 := Aside0.mk HQ4
                have HB5 := Aside0.mk HB4
                clear hW4 HG HR4 HQ4 HB4 cp fp
                have cp := HG4.out.c
                have fp := HG4.out.f
                go_wp2
                go_meet
                case rel => exact ⟨A2, c2, FV, co - 1, [o], os', ⟨HG4.out.set9 _⟩, ⟨R_putg HR5.out (Nat.lt_succ_self g) _ _⟩, ⟨Q_put HQ5.out (Nat.lt_succ_self g)⟩, ⟨HB5.out.setCell (Nat.le_refl g) _⟩, ⟨by simp⟩, HE1⟩
            · have t8 : (((f0 :: frs').length : Int) == 0) = false := beq_eq_false_iff_ne.2 (by simp only [List.length_cons]; omega)
              have HE1 : Aside0 (fin s1 (f0 :: frs') os = some r) := ⟨HE0.out rfl⟩
              have HLE : Aside0 ((f0 :: frs').length ≤ 1000 ∧ 0 < (f0 :: frs').length) := ⟨by have h1 := HLEN.out; have h2 := HN.out; simp only [List.length_cons] at h1 ⊢; omega⟩
              obtain ⟨fl2, hfl2⟩ : ∃ fl2, fl2 = f0 :: frs' := ⟨_, rfl⟩
              rw [← hfl2] at t8 HE1 HLE HP HF cp ⊢
              clear hfl2
              go_wp2
              go_meet
              case rel => exact ⟨_, _, _, _, fl2, os, HP, ⟨Kd.R_mono HF.out (fun _ _ => trivial)⟩, ⟨Kd.Q_of_R HO.out⟩, HB, HLE, HE1⟩
          case rest =>
            obtain ⟨frA, frc, oA, oc, frs2, os2, HP, HF, HQ, HB, HLN2, HFN⟩ := hcut
            have HJT : Aside0 ((Lib.join (frs2.map (·.data.toList)) [10]).length ≤ 140737488355328 ∧ r = (s1.q, s1.x, s1.a, s1.i, joinS frs2, s1.en, s1.lo, os2, 0, 0)) := ⟨fin_some HFN.out⟩
            have HP0 : Aside0 (PS wc g s1 ⟨#[]⟩ (.slice none 0 0) (.slice frA frs2.length frc) (.slice oA os2.length oc) at_) := ⟨HP.out⟩
            clear HP HFN
            go_step
            go_wp2
            go_loopg [12] (frs2.length + 1) (fun kq v12 wr => ∃ (j : Nat) (sc : ByteArray), v12 = .int .i64 j ∧ Aside0 (kq + j = frs2.length + 1) ∧ Aside0 (j ≤ frs2.length ∧ sc = joinS (frs2.take j)) ∧ Aside0 (PS wr g s1 sc (.slice none 0 0) (.slice frA frs2.length frc) (.slice oA os2.length oc) at_) ∧ Aside0 (Kd.R Kd.string 9 wr (g + 1) (fun _ => True) (.slice frA frs2.length frc) frs2) ∧ Aside0 (Kd.Q Kd.string 9 wr (g + 1) (fun _ => True) (.slice oA os2.length oc) os2) ∧ Aside0 (Below g W1 wr))
            case atStart => exact ⟨0, ⟨#[]⟩, rfl, ⟨by omega⟩, ⟨Nat.zero_le _, rfl⟩, HP0, HF, HQ, HB⟩
            case round =>
              clear HP0 HF HQ HB
              obtain ⟨j, sc, rfl, HK, HJ, HP7, HF7, HQ7, HB7⟩ := hrel
              have cp := HP7.out.c
              have fp := HP7.out.f
              by_cases hjl : j < frs2.length
              · obtain ⟨k1, rfl⟩ : ∃ m, gk = m + 1 := ⟨gk - 1, by have := HK.out; omega⟩
                obtain ⟨f, hf⟩ : ∃ f, f = frs2[j]'hjl := ⟨_, rfl⟩
                have hjs := join_step frs2 j hjl
                rw [← hf, ← HJ.out.2] at hjs
                have HJT1 := HJT.out.1
                have hjz := join_take_le frs2 (j + 1)
                rw [← joinS_size', ← joinS_size', hjs] at hjz
                rw [← joinS_size'] at HJT1
                have XF : Aside0 (∀ W', Kd.C Kd.string W' frA frs2.length frs2 → ∃ fad, frA = some fad ∧ W'.cell? (fad.add j) = some (.string f)) := ⟨fun W' hW => by
                  obtain ⟨ad, cc, e, hcl, hk, hc⟩ := Kd.C_get hW ByteArray.empty (j : Int) (by omega) (by omega)
                  have hk2 : cc = [.string (frs2.getD ((j : Int)).toNat ByteArray.empty)] := hk
                  subst hk2
                  have h3 := hc 0 _ rfl
                  have e1 : ad.add (((j : Int)).toNat * Kd.string.sz + 0) = ad.add j := by
                    show ad.add (((j : Int)).toNat * 1 + 0) = _
                    rw [Int.toNat_natCast, Nat.mul_one, Nat.add_zero]
                  rw [e1] at h3
                  have e2 : frs2.getD ((j : Int)).toNat ByteArray.empty = f := by
                    rw [Int.toNat_natCast, List.getD_eq_getElem?_getD, List.getElem?_eq_getElem hjl, hf]
                    rfl
                  rw [e2] at h3
                  exact ⟨ad, e, h3⟩⟩
                obtain ⟨fad, rfl, hfw⟩ := XF.out wr (Kd.R_reads' HF7.out).2.2
                have t3 : decide ((j : Int) < (frs2.length : Int)) = true := decide_eq_true (by omega)
                have p0 : (0 : Int) ≤ (j : Int) := by omega
                have p1 : (j : Int) < (frs2.length : Int) := by omega
                have HWJ : Aside0 (wrap64 ((j : Int) + 1) = ((j + 1 : Nat) : Int)) := ⟨by have := HLN2.out.1; unfold wrap64; omega⟩
                have HJL := Aside0.mk hjl
                by_cases hj0 : j = 0
                · rw [if_pos hj0] at hjs hjz
                  have HJN : Aside0 (sc ++ f = joinS (frs2.take (j + 1))) := ⟨by rw [hjs]⟩
                  have hcat : (sc.size + f.size ≤ 9223372036854775807) = True := eq_true (by rw [size_app] at hjz; omega)
                  have hfd : wr.drew.cell? (fad.add j) = some (.string f) := hfw
                  have t5 : decide ((j : Int) > 0) = false := decide_eq_false (by omega)
                  have t6 : decide ((0 : Int) < (j : Int)) = false := decide_eq_false (by omega)
                  have t7 : (0 < j) = False := eq_false (by omega)
                  clear hjs hjz hf hjl hj0 HJT1
                  go_wp2
                  refine start_ (n := 12) (S := fun w' => w'.cell? ⟨g, 4, none⟩ = some (.string sc) ∧ w'.cell? ⟨g, 8, none⟩ = some (.slice (some fad) frs2.length frc) ∧ w'.cell? (fad.add j) = some (.string f)) (ds := [11]) #[false, false, false, false, false, false, false, false, false, false, false, false] (by kernel_rfl) rfl rfl (⟨(HP7.out.of (W' := wr.drew) rfl).c.2.2.2.2.1, (HP7.out.of (W' := wr.drew) rfl).c.2.2.2.2.2.2.2.2.1, hfd⟩) (fun hHeld => ?_)
                  have HPD := Aside0.mk (HP7.out.of (W' := wr.drew) rfl)
                  have HFD := Aside0.mk (Kd.R_drew HF7.out)
                  have HQD := Aside0.mk (Kd.Q_drew HQ7.out)
                  have HBD := Aside0.mk (below_drew1 HB7.out)
                  generalize wr.drew = wd at HPD HFD HQD HBD hHeld ⊢
                  refine pure_ (i := 0) (N := some 121) (v := ?_) (a' := ?_) #[true, false, false, false, false, false, false, false, false, false, false, false] rfl rfl (by kernel_rfl) (fun _ _ _ h => h) (Or.inl ⟨by rfl, ?_⟩) ?_ ?_
                  rotate_left
                  · intro w'
                    go_simp
                    try with_reducible rfl
                  rotate_left
                  · simp only [Act.put, List.setIfInBounds_toArray, List.set_cons_zero, List.set_cons_succ]
                    rfl
                  refine pure_ (i := 1) (N := some 122) (v := ?_) (a' := ?_) #[true, true, false, false, false, false, false, false, false, false, false, false] rfl rfl (by kernel_rfl) (fun _ _ _ h => h) (Or.inl ⟨by rfl, ?_⟩) ?_ ?_
                  rotate_left
                  · intro w'
                    go_simp
                    try with_reducible rfl
                  rotate_left
                  · simp only [Act.put, List.setIfInBounds_toArray, List.set_cons_zero, List.set_cons_succ]
                    rfl
                  refine take_ (i := 2) (N := some 123) (v := ?_) (a' := ?_) #[true, true, true, false, false, false, false, false, false, false, false, false] rfl rfl (by kernel_rfl) (fun _ _ _ h => h) (Or.inl ⟨by rfl, ?_⟩) hHeld ?_ ?_
                  rotate_left
                  · rintro w' ⟨s4, s8, sf⟩
                    go_simp
                    try with_reducible rfl
                  rotate_left
                  · simp only [Act.put, List.setIfInBounds_toArray, List.set_cons_zero, List.set_cons_succ]
                    rfl
                  refine pure_ (i := 3) (N := some 124) (v := ?_) (a' := ?_) #[true, true, true, true, false, false, false, false, false, false, false, false] rfl rfl (by kernel_rfl) (fun _ _ _ h => h) (Or.inl ⟨by rfl, ?_⟩) ?_ ?_
                  rotate_left
                  · intro w'
                    go_simp
                    try with_reducible rfl
                  rotate_left
                  · simp only [Act.put, List.setIfInBounds_toArray, List.set_cons_zero, List.set_cons_succ]
                    rfl
                  refine take_ (i := 4) (N := some 125) (v := ?_) (a' := ?_) #[true, true, true, true, true, false, false, false, false, false, false, false] rfl rfl (by kernel_rfl) (fun _ _ _ h => h) (Or.inl ⟨by rfl, ?_⟩) hHeld ?_ ?_
                  rotate_left
                  · rintro w' ⟨s4, s8, sf⟩
                    go_simp
                    try with_reducible rfl
                  rotate_left
                  · simp only [Act.put, List.setIfInBounds_toArray, List.set_cons_zero, List.set_cons_succ]
                    rfl
                  refine pure_ (i := 5) (N := some 126) (v := ?_) (a' := ?_) #[true, true, true, true, true, true, false, false, false, false, false, false] rfl rfl (by kernel_rfl) (fun _ _ _ h => h) (Or.inl ⟨by rfl, ?_⟩) ?_ ?_
                  rotate_left
                  · intro w'
                    go_simp
                    try with_reducible rfl
                  rotate_left
                  · simp only [Act.put, List.setIfInBounds_toArray, List.set_cons_zero, List.set_cons_succ]
                    rfl
                  refine pure_ (i := 6) (N := some 127) (v := ?_) (a' := ?_) #[true, true, true, true, true, true, true, false, false, false, false, false] rfl rfl (by kernel_rfl) (fun _ _ _ h => h) (Or.inl ⟨by rfl, ?_⟩) ?_ ?_
                  rotate_left
                  · intro w'
                    go_simp
                    try with_reducible rfl
                  rotate_left
                  · simp only [Act.put, List.setIfInBounds_toArray, List.set_cons_zero, List.set_cons_succ]
                    rfl
                  refine take_ (i := 7) (N := some 128) (v := ?_) (a' := ?_) #[true, true, true, true, true, true, true, true, false, false, false, false] rfl rfl (by kernel_rfl) (fun _ _ _ h => h) (Or.inl ⟨by rfl, ?_⟩) hHeld ?_ ?_
                  rotate_left
                  · rintro w' ⟨s4, s8, sf⟩
                    go_simp
                    try with_reducible rfl
                  rotate_left
                  · simp only [Act.put, List.setIfInBounds_toArray, List.set_cons_zero, List.set_cons_succ]
                    rfl
                  refine pure_ (i := 8) (N := some 129) (v := .string (sc ++ f)) (a' := ?_) #[true, true, true, true, true, true, true, true, true, false, false, false] rfl rfl (by kernel_rfl) (fun _ _ _ h => h) (Or.inl ⟨by rfl, ?_⟩) ?_ ?_
                  · intro w'
                    go_simp
                    try simp only [hcat, if_true]
                  rotate_left
                  · simp only [Act.put, List.setIfInBounds_toArray, List.set_cons_zero, List.set_cons_succ]
                    rfl
                  refine pure_ (i := 9) (N := some 130) (v := ?_) (a' := ?_) #[true, true, true, true, true, true, true, true, true, true, false, false] rfl rfl (by kernel_rfl) (fun _ _ _ h => h) (Or.inl ⟨by rfl, ?_⟩) ?_ ?_
                  rotate_left
                  · intro w'
                    go_simp
                    try with_reducible rfl
                  rotate_left
                  · simp only [Act.put, List.setIfInBounds_toArray, List.set_cons_zero, List.set_cons_succ]
                    rfl
                  refine pure_ (i := 10) (N := some 131) (v := ?_) (a' := ?_) #[true, true, true, true, true, true, true, true, true, true, true, false] rfl rfl (by kernel_rfl) (fun _ _ _ h => h) (Or.inl ⟨by rfl, ?_⟩) ?_ ?_
                  rotate_left
                  · intro w'
                    go_simp
                    try with_reducible rfl
                  rotate_left
                  · simp only [Act.put, List.setIfInBounds_toArray, List.set_cons_zero, List.set_cons_succ]
                    rfl
                  refine last_ (i := 11) (N := none) #[true, true, true, true, true, true, true, true, true, true, true, true] rfl rfl (by kernel_rfl) (by decide) (fun K hK => ?_)
                  have fr := HPD.out.f
                  have cr := HPD.out.c
                  refine skip_ (w1 := wd.setCell ⟨g, 4, none⟩ (.string (sc ++ f))) (by rfl) rfl (by first | (go_simp; done) | (go_simp; rfl)) ?_
                  refine hK.out _ _ ?_
                  clear hK K
                  refine done_ (by kernel_rfl) ?_
                  go_wp2
                  go_roundg k1
                  case measure => omega
                  case rel => exact ⟨j + 1, sc ++ f, (by rw [HWJ.out]), ⟨by have := HK.out; omega⟩, ⟨by have := HJL.out; omega, HJN.out⟩, ⟨HPD.out.set4 _⟩, ⟨R_putg HFD.out (Nat.lt_succ_self g) _ _⟩, ⟨Q_put HQD.out (Nat.lt_succ_self g)⟩, ⟨HBD.out.setCell (Nat.le_refl g) _⟩⟩
                · rw [if_neg hj0] at hjs hjz
                  have HJN : Aside0 ((sc ++ ⟨#[10]⟩) ++ f = joinS (frs2.take (j + 1))) := ⟨by rw [hjs]⟩
                  have hcat0 : (sc.size + 1 ≤ 9223372036854775807) = True := eq_true (by rw [size_app, size_app] at hjz; have h9 : (⟨#[10]⟩ : ByteArray).size = 1 := rfl; omega)
                  have hcat1 : (9223372036854775807 < sc.size + 1) = False := eq_false (by rw [size_app, size_app] at hjz; have h9 : (⟨#[10]⟩ : ByteArray).size = 1 := rfl; omega)
                  have HCT : Aside0 ((sc ++ ⟨#[10]⟩).size + f.size ≤ 9223372036854775807) := ⟨by rw [size_app] at hjz; omega⟩
                  have t5 : decide ((j : Int) > 0) = true := decide_eq_true (by omega)
                  have t6 : decide ((0 : Int) < (j : Int)) = true := decide_eq_true (by omega)
                  have t7 : (0 < j) = True := eq_true (by omega)
                  clear hjs hjz hf hjl hj0 HJT1
                  go_wp2
                  have HP8 := Aside0.mk (HP7.out.set4 (sc ++ ⟨#[10]⟩))
                  have HF8 := Aside0.mk (R_putg HF7.out (Nat.lt_succ_self g) 4 (.string (sc ++ ⟨#[10]⟩)))
                  have HQ8 := Aside0.mk (Q_put (i := 4) (u := .string (sc ++ ⟨#[10]⟩)) HQ7.out (Nat.lt_succ_self g))
                  have HB8 := Aside0.mk (HB7.out.setCell (p := ⟨g, 4, none⟩) (Nat.le_refl g) (.string (sc ++ ⟨#[10]⟩)))
                  generalize hsc : sc ++ ⟨#[10]⟩ = sc2 at HP8 HF8 HQ8 HB8 HJN HCT ⊢
                  generalize wr.setCell ⟨g, 4, none⟩ (.string sc2) = W7 at HP8 HF8 HQ8 HB8 ⊢
                  clear hsc HP7 HF7 HQ7 HB7 cp fp hfw
                  have HP7 := HP8
                  have HF7 := HF8
                  have HQ7 := HQ8
                  have HB7 := HB8
                  clear HP8 HF8 HQ8 HB8
                  obtain ⟨fad2, e2, hfw⟩ := XF.out W7 (Kd.R_reads' HF7.out).2.2
                  cases e2
                  have hfd : W7.drew.cell? (fad.add j) = some (.string f) := hfw
                  have hcat := eq_true HCT.out
                  have hcat2 : (9223372036854775807 < sc2.size + f.size) = False := eq_false (by have := HCT.out; omega)
                  have cp := HP7.out.c
                  have fp := HP7.out.f
                  refine start_ (n := 12) (S := fun w' => w'.cell? ⟨g, 4, none⟩ = some (.string sc2) ∧ w'.cell? ⟨g, 8, none⟩ = some (.slice (some fad) frs2.length frc) ∧ w'.cell? (fad.add j) = some (.string f)) (ds := [11]) #[false, false, false, false, false, false, false, false, false, false, false, false] (by kernel_rfl) rfl rfl (⟨(HP7.out.of (W' := W7.drew) rfl).c.2.2.2.2.1, (HP7.out.of (W' := W7.drew) rfl).c.2.2.2.2.2.2.2.2.1, hfd⟩) (fun hHeld => ?_)
                  have HPD := Aside0.mk (HP7.out.of (W' := W7.drew) rfl)
                  have HFD := Aside0.mk (Kd.R_drew HF7.out)
                  have HQD := Aside0.mk (Kd.Q_drew HQ7.out)
                  have HBD := Aside0.mk (below_drew1 HB7.out)
                  generalize W7.drew = wd at HPD HFD HQD HBD hHeld ⊢
                  refine pure_ (i := 0) (N := some 121) (v := ?_) (a' := ?_) #[true, false, false, false, false, false, false, false, false, false, false, false] rfl rfl (by kernel_rfl) (fun _ _ _ h => h) (Or.inl ⟨by rfl, ?_⟩) ?_ ?_
                  rotate_left
                  · intro w'
                    go_simp
                    try with_reducible rfl
                  rotate_left
                  · simp only [Act.put, List.setIfInBounds_toArray, List.set_cons_zero, List.set_cons_succ]
                    rfl
                  refine pure_ (i := 1) (N := some 122) (v := ?_) (a' := ?_) #[true, true, false, false, false, false, false, false, false, false, false, false] rfl rfl (by kernel_rfl) (fun _ _ _ h => h) (Or.inl ⟨by rfl, ?_⟩) ?_ ?_
                  rotate_left
                  · intro w'
                    go_simp
                    try with_reducible rfl
                  rotate_left
                  · simp only [Act.put, List.setIfInBounds_toArray, List.set_cons_zero, List.set_cons_succ]
                    rfl
                  refine take_ (i := 2) (N := some 123) (v := ?_) (a' := ?_) #[true, true, true, false, false, false, false, false, false, false, false, false] rfl rfl (by kernel_rfl) (fun _ _ _ h => h) (Or.inl ⟨by rfl, ?_⟩) hHeld ?_ ?_
                  rotate_left
                  · rintro w' ⟨s4, s8, sf⟩
                    go_simp
                    try with_reducible rfl
                  rotate_left
                  · simp only [Act.put, List.setIfInBounds_toArray, List.set_cons_zero, List.set_cons_succ]
                    rfl
                  refine pure_ (i := 3) (N := some 124) (v := ?_) (a' := ?_) #[true, true, true, true, false, false, false, false, false, false, false, false] rfl rfl (by kernel_rfl) (fun _ _ _ h => h) (Or.inl ⟨by rfl, ?_⟩) ?_ ?_
                  rotate_left
                  · intro w'
                    go_simp
                    try with_reducible rfl
                  rotate_left
                  · simp only [Act.put, List.setIfInBounds_toArray, List.set_cons_zero, List.set_cons_succ]
                    rfl
                  refine take_ (i := 4) (N := some 125) (v := ?_) (a' := ?_) #[true, true, true, true, true, false, false, false, false, false, false, false] rfl rfl (by kernel_rfl) (fun _ _ _ h => h) (Or.inl ⟨by rfl, ?_⟩) hHeld ?_ ?_
                  rotate_left
                  · rintro w' ⟨s4, s8, sf⟩
                    go_simp
                    try with_reducible rfl
                  rotate_left
                  · simp only [Act.put, List.setIfInBounds_toArray, List.set_cons_zero, List.set_cons_succ]
                    rfl
                  refine pure_ (i := 5) (N := some 126) (v := ?_) (a' := ?_) #[true, true, true, true, true, true, false, false, false, false, false, false] rfl rfl (by kernel_rfl) (fun _ _ _ h => h) (Or.inl ⟨by rfl, ?_⟩) ?_ ?_
                  rotate_left
                  · intro w'
                    go_simp
                    try with_reducible rfl
                  rotate_left
                  · simp only [Act.put, List.setIfInBounds_toArray, List.set_cons_zero, List.set_cons_succ]
                    rfl
                  refine pure_ (i := 6) (N := some 127) (v := ?_) (a' := ?_) #[true, true, true, true, true, true, true, false, false, false, false, false] rfl rfl (by kernel_rfl) (fun _ _ _ h => h) (Or.inl ⟨by rfl, ?_⟩) ?_ ?_
                  rotate_left
                  · intro w'
                    go_simp
                    try with_reducible rfl
                  rotate_left
                  · simp only [Act.put, List.setIfInBounds_toArray, List.set_cons_zero, List.set_cons_succ]
                    rfl
                  refine take_ (i := 7) (N := some 128) (v := ?_) (a' := ?_) #[true, true, true, true, true, true, true, true, false, false, false, false] rfl rfl (by kernel_rfl) (fun _ _ _ h => h) (Or.inl ⟨by rfl, ?_⟩) hHeld ?_ ?_
                  rotate_left
                  · rintro w' ⟨s4, s8, sf⟩
                    go_simp
                    try with_reducible rfl
                  rotate_left
                  · simp only [Act.put, List.setIfInBounds_toArray, List.set_cons_zero, List.set_cons_succ]
                    rfl
                  refine pure_ (i := 8) (N := some 129) (v := .string (sc2 ++ f)) (a' := ?_) #[true, true, true, true, true, true, true, true, true, false, false, false] rfl rfl (by kernel_rfl) (fun _ _ _ h => h) (Or.inl ⟨by rfl, ?_⟩) ?_ ?_
                  · intro w'
                    go_simp
                    try simp only [hcat, if_true]
                  rotate_left
                  · simp only [Act.put, List.setIfInBounds_toArray, List.set_cons_zero, List.set_cons_succ]
                    rfl
                  refine pure_ (i := 9) (N := some 130) (v := ?_) (a' := ?_) #[true, true, true, true, true, true, true, true, true, true, false, false] rfl rfl (by kernel_rfl) (fun _ _ _ h => h) (Or.inl ⟨by rfl, ?_⟩) ?_ ?_
                  rotate_left
                  · intro w'
                    go_simp
                    try with_reducible rfl
                  rotate_left
                  · simp only [Act.put, List.setIfInBounds_toArray, List.set_cons_zero, List.set_cons_succ]
                    rfl
                  refine pure_ (i := 10) (N := some 131) (v := ?_) (a' := ?_) #[true, true, true, true, true, true, true, true, true, true, true, false] rfl rfl (by kernel_rfl) (fun _ _ _ h => h) (Or.inl ⟨by rfl, ?_⟩) ?_ ?_
                  rotate_left
                  · intro w'
                    go_simp
                    try with_reducible rfl
                  rotate_left
                  · simp only [Act.put, List.setIfInBounds_toArray, List.set_cons_zero, List.set_cons_succ]
                    rfl
                  refine last_ (i := 11) (N := none) #[true, true, true, true, true, true, true, true, true, true, true, true] rfl rfl (by kernel_rfl) (by decide) (fun K hK => ?_)
                  have fr := HPD.out.f
                  have cr := HPD.out.c
                  refine skip_ (w1 := wd.setCell ⟨g, 4, none⟩ (.string (sc2 ++ f))) (by rfl) rfl (by first | (go_simp; done) | (go_simp; rfl)) ?_
                  refine hK.out _ _ ?_
                  clear hK K
                  refine done_ (by kernel_rfl) ?_
                  go_wp2
                  go_roundg k1
                  case measure => omega
                  case rel => exact ⟨j + 1, sc2 ++ f, (by rw [HWJ.out]), ⟨by have := HK.out; omega⟩, ⟨by have := HJL.out; omega, HJN.out⟩, ⟨HPD.out.set4 _⟩, ⟨R_putg HFD.out (Nat.lt_succ_self g) _ _⟩, ⟨Q_put HQD.out (Nat.lt_succ_self g)⟩, ⟨HBD.out.setCell (Nat.le_refl g) _⟩⟩
              · have t3 : decide ((j : Int) < (frs2.length : Int)) = false := decide_eq_false (by omega)
                have hje : sc = joinS frs2 := by rw [HJ.out.2, List.take_of_length_le (by omega)]
                subst hje
                have HBR : Aside0 (Below w.heap.size w wr) := ⟨HBX.out.trans (HB7.out.mono (by rw [HG.out]; omega))⟩
                have HRS2 : Aside0 (ResAt wr w.heap.size) := ⟨HRX.out.of (HB7.out.block w.heap.size (by rw [HG.out]; omega))⟩
                have hr := HJT.out.2
                subst hr
                have HLG : Aside0 (w.heap.size ≤ g) := ⟨by rw [HG.out]; omega⟩
                have HGN : Aside0 (w.heap.size ≠ g) := ⟨by rw [HG.out]; omega⟩
                have HRS3 : Aside0 (ResAt (wr.setCell ⟨g, 7, none⟩ (.slice oA os2.length oc)) w.heap.size) := ⟨HRS2.out.of (Below.heap_setCell _ _ _ _ HGN.out)⟩
                have cr := HRS3.out.c
                have fr := HRS3.out.f
                have hgn := HGN.out
                go_wp2
                have HJ8 := put8_at HRS3.out s1.q s1.x s1.a s1.i (joinS frs2) s1.en s1.lo (.slice oA os2.length oc)
                refine bodyPost_ret (results_ctt rfl _ _ w.heap.size 24 _ (0, 0) _ rfl HJ8 Tryd.underlying24 rfl (by kernel_rfl)) rfl ?_
                refine ⟨_, rfl, ?_, put8_below (HBR.out.setCell (p := ⟨g, 7, none⟩) HLG.out _) _ _ _ _ _ _ _ _⟩
                have h1 := Q_put (i := 7) (u := .slice oA os2.length oc) HQ7.out (Nat.lt_succ_self g)
                exact Kd.Q_lower (put8_Q h1 (Nat.lt_succ_of_le HLG.out)) (Nat.le_succ_of_le HLG.out)
      · have t4 : (er != 0) = true := by simpa using he
        have HNE := Aside0.mk he
        have hr := HE.out he
        subst hr
        clear he HE HE0
        have fr := HRS.out.f
        have cr := HRS.out.c
        go_wp2
        refine start_ (n := 8) (S := fun w' => w'.cell? ⟨g, 10, none⟩ = some (.int .i64 er) ∧ w'.cell? ⟨g, 11, none⟩ = some (.int .i64 at_)) (ds := []) #[false, false, false, false, false, false, false, false] (by kernel_rfl) rfl rfl (⟨(HP.out.of (W' := wc.drew) rfl).c.2.2.2.2.2.2.2.2.2.2.1, (HP.out.of (W' := wc.drew) rfl).c.2.2.2.2.2.2.2.2.2.2.2⟩) (fun hHeld => ?_)
        have HPD := Aside0.mk (HP.out.of (W' := wc.drew) rfl)
        have HRD := Aside0.mk (HRS.out.of (W' := wc.drew) rfl)
        have HBD := Aside0.mk (below_drew1 HBW.out)
        clear fr cr cp fp
        generalize wc.drew = wd at HPD HRD HBD hHeld ⊢
        refine pure_ (i := 0) (N := some 80) (v := ?_) (a' := ?_) #[true, false, false, false, false, false, false, false] rfl rfl (by kernel_rfl) (fun _ _ _ h => h) (Or.inl ⟨by rfl, ?_⟩) ?_ ?_
        rotate_left
        · intro w'
          go_simp
          try with_reducible rfl
        rotate_left
        · simp only [Act.put, List.setIfInBounds_toArray, List.set_cons_zero, List.set_cons_succ]
          rfl
        refine pure_ (i := 1) (N := some 81) (v := ?_) (a' := ?_) #[true, true, false, false, false, false, false, false] rfl rfl (by kernel_rfl) (fun _ _ _ h => h) (Or.inl ⟨by rfl, ?_⟩) ?_ ?_
        rotate_left
        · intro w'
          go_simp
          try with_reducible rfl
        rotate_left
        · simp only [Act.put, List.setIfInBounds_toArray, List.set_cons_zero, List.set_cons_succ]
          rfl
        refine take_ (i := 2) (N := some 82) (v := ?_) (a' := ?_) #[true, true, true, false, false, false, false, false] rfl rfl (by kernel_rfl) (fun _ _ _ h => h) (Or.inl ⟨by rfl, ?_⟩) hHeld ?_ ?_
        rotate_left
        · rintro w' ⟨s10, s11⟩
          go_simp
          try with_reducible rfl
        rotate_left
        · simp only [Act.put, List.setIfInBounds_toArray, List.set_cons_zero, List.set_cons_succ]
          rfl
        refine pure_ (i := 3) (N := some 83) (v := ?_) (a' := ?_) #[true, true, true, true, false, false, false, false] rfl rfl (by kernel_rfl) (fun _ _ _ h => h) (Or.inl ⟨by rfl, ?_⟩) ?_ ?_
        rotate_left
        · intro w'
          go_simp
          try with_reducible rfl
        rotate_left
        · simp only [Act.put, List.setIfInBounds_toArray, List.set_cons_zero, List.set_cons_succ]
          rfl
        refine take_ (i := 4) (N := some 84) (v := ?_) (a' := ?_) #[true, true, true, true, true, false, false, false] rfl rfl (by kernel_rfl) (fun _ _ _ h => h) (Or.inl ⟨by rfl, ?_⟩) hHeld ?_ ?_
        rotate_left
        · rintro w' ⟨s10, s11⟩
          go_simp
          try with_reducible rfl
        rotate_left
        · simp only [Act.put, List.setIfInBounds_toArray, List.set_cons_zero, List.set_cons_succ]
          rfl
        refine one_ (i := 5) (N := none) #[true, true, true, true, true, true, false, false] rfl rfl (by kernel_rfl) (by decide) (fun K hK => ?_)
        have fr := HRD.out.f
        have cr := HRD.out.c
        refine skip_ (w1 := res8 wd w.heap.size) (by rfl) rfl (by first | (go_simp; done) | (go_simp; rfl)) ?_
        refine hK.out _ _ (⟨(HPD.out.of (res8_far g (by rw [HG.out]; omega))).c.2.2.2.2.2.2.2.2.2.2.1, (HPD.out.of (res8_far g (by rw [HG.out]; omega))).c.2.2.2.2.2.2.2.2.2.2.2⟩) (fun hHeld => ?_)
        clear hK K
        refine pure_ (i := 6) (N := some 5) (v := ?_) (a' := ?_) #[true, true, true, true, true, true, true, false] rfl rfl (by kernel_rfl) (fun _ _ _ h => h) (Or.inl ⟨by rfl, ?_⟩) ?_ ?_
        rotate_left
        · intro w'
          go_simp
          try with_reducible rfl
        rotate_left
        · simp only [Act.put, List.setIfInBounds_toArray, List.set_cons_zero, List.set_cons_succ]
          rfl
        refine pure_ (i := 7) (N := some 6) (v := ?_) (a' := ?_) #[true, true, true, true, true, true, true, true] rfl rfl (by kernel_rfl) (fun _ _ _ h => h) (Or.inl ⟨by rfl, ?_⟩) ?_ ?_
        rotate_left
        · intro w'
          go_simp
          try with_reducible rfl
        rotate_left
        · simp only [Act.put, List.setIfInBounds_toArray, List.set_cons_zero, List.set_cons_succ]
          rfl
        refine done_ (by kernel_rfl) ?_
        go_wp2
        refine bodyPost_ret (results_ctt rfl _ _ w.heap.size 24 _ (0, 0) _ rfl (res_zero HRD.out) Tryd.underlying24 rfl (by kernel_rfl)) rfl ?_
        exact ⟨_, rfl, Kd.Q_nil _ _ _ _ _, res_below HBD.out⟩
-- END R
#print axioms refparse_all
end Go.Proofs.YtceflmoiiiclcaaDoor.RF
namespace Go.Proofs.YtceflmoiiiclcaaDoor.PX
set_option linter.unusedVariables false
open Go.RowKit Go.Proofs.YtceflmoiiiclcaaDoorW.PrintWords Go.Proofs.YtceflmoiiiclcaaDoor.EC Go.Proofs.YtceflmoiiiclcaaDoor.RF
def redactorref19_Parse.f (k : Nat) (xs : List ByteArray) (l : List S54) : Option PR := if (∀ z ∈ xs, z.size < 4611686018427387904) ∧ l.length < 35184372088832 ∧ (∀ x ∈ l, x.f1.length < 4611686018427387904) then parseF l xs else none
theorem redactorref19_Parse.mono : ∀ a0 a1 k, LeO (redactorref19_Parse.f k a0 a1) (redactorref19_Parse.f (k + 1) a0 a1) := fun a0 a1 k => LeO.refl _
theorem redactorref19_Parse.calls (k : Nat) (A0 : Option Addr) (c0 : Nat) (l0 : List ByteArray) (A1 : Option Addr) (c1 : Nat) (l1 : List S54) (r0 r1 r2 r3 : Bool) (r4 : ByteArray) (r5 : Int) (r6 : ByteArray) (r7 : List ByteArray) (r8 r9 : Int) (w : World) (hr0 : Kd.C Kd.string w A0 l0.length l0) (hc0 : l0.length ≤ c0) (hr1 : Kd.C k54 w A1 l1.length l1) (hc1 : l1.length ≤ c1)
    (h : redactorref19_Parse.f k l0 l1 = some (r0, r1, r2, r3, r4, r5, r6, r7, r8, r9)) :
    Calls Tryd.prog 23 #[.slice A0 l0.length c0, .slice A1 l1.length c1] w fun e w' => ∃ v0_ : Value, e = .returned (.tuple #[.agg #[.bool r0, .bool r1, .bool r2, .bool r3, .string r4, .int .u8 r5, .string r6, v0_], .int .i64 r8, .int .i64 r9]) ∧ Kd.Q Kd.string 9 w' w.heap.size (fun _ => True) v0_ r7 ∧ Below w.heap.size w w' := by
  unfold redactorref19_Parse.f at h
  by_cases c : (∀ z ∈ l0, z.size < 4611686018427387904) ∧ l1.length < 35184372088832 ∧ (∀ x ∈ l1, x.f1.length < 4611686018427387904)
  · rw [if_pos c] at h
    unfold parseF at h
    by_cases n : 40 < l0.length
    · rw [if_pos n] at h
      have e := Option.some.inj h
      have h1 := refparse_long w A0 c0 l0.length (.slice A1 l1.length c1) n
      unfold REnd at h1
      rw [e] at h1
      exact h1
    · rw [if_neg n] at h
      have h1 := refparse_all w A0 c0 l0 A1 c1 l1 _ hr0 hr1 hc0 c.1 c.2.1 c.2.2 n h
      unfold REnd at h1
      exact h1
  · rw [if_neg c] at h
    cases h
#print axioms redactorref19_Parse.calls
end Go.Proofs.YtceflmoiiiclcaaDoor.PX
