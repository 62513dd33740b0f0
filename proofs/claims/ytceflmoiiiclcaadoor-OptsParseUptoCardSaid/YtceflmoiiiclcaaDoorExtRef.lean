/- The document's answer for opts, its small functions: frag, Find, Named. Conditions: rows stand in memory. -/
import Derived.Test.YtceflmoiiiclcaaDoorExtParseF
namespace Go.Proofs.YtceflmoiiiclcaaDoor.RF
open Go.RowKit Go.Proofs.YtceflmoiiiclcaaDoorW.PrintWords Go.Proofs.YtceflmoiiiclcaaDoorW.PrintLast Go.Proofs.YtceflmoiiiclcaaDoorW.PrintMore
open EC
set_option linter.unusedVariables false
set_option linter.unusedSimpArgs false

/-- What is read so far, as a value: fragments frv, others ov, the error er at place at_. -/
def pagg (s : St) (frv ov : Value) (er at_ : Int) : Value := .agg #[.bool s.q, .bool s.x, .bool s.a, .bool s.i, .string ⟨#[]⟩, .int .u8 s.en, .string s.lo, .slice none 0 0, frv, ov, .int .i64 er, .int .i64 at_]
/-- The same in block g. -/
def PAt (W : World) (g : Nat) (s : St) (frv ov : Value) (er at_ : Int) : Prop := W.heap[g]? = some (.cells #[.bool s.q, .bool s.x, .bool s.a, .bool s.i, .string ⟨#[]⟩, .int .u8 s.en, .string s.lo, .slice none 0 0, frv, ov, .int .i64 er, .int .i64 at_] 74 (0, 0))
section
variable {W W' : World} {g : Nat} {s : St} {frv ov : Value} {er at_ : Int}
theorem PAt.c (h : PAt W g s frv ov er at_) : W.cell? ⟨g, 0, none⟩ = some (.bool s.q) ∧ W.cell? ⟨g, 1, none⟩ = some (.bool s.x) ∧ W.cell? ⟨g, 2, none⟩ = some (.bool s.a) ∧ W.cell? ⟨g, 3, none⟩ = some (.bool s.i) ∧ W.cell? ⟨g, 4, none⟩ = some (.string ⟨#[]⟩) ∧ W.cell? ⟨g, 5, none⟩ = some (.int .u8 s.en) ∧ W.cell? ⟨g, 6, none⟩ = some (.string s.lo) ∧ W.cell? ⟨g, 7, none⟩ = some (.slice none 0 0) ∧ W.cell? ⟨g, 8, none⟩ = some frv ∧ W.cell? ⟨g, 9, none⟩ = some ov ∧ W.cell? ⟨g, 10, none⟩ = some (.int .i64 er) ∧ W.cell? ⟨g, 11, none⟩ = some (.int .i64 at_) := by unfold PAt at h; simp [World.cell?, h]
theorem PAt.f (h : PAt W g s frv ov er at_) (i : Nat) : W.frozen? ⟨g, i, none⟩ = false := by unfold PAt at h; simp [World.frozen?, h]
theorem PAt.lt (h : PAt W g s frv ov er at_) : g < W.heap.size := (Array.getElem?_eq_some_iff.1 h).1
theorem PAt.of (h : PAt W g s frv ov er at_) (hW : W'.heap[g]? = W.heap[g]?) : PAt W' g s frv ov er at_ := hW.trans h
theorem PAt.below (h : PAt W g s frv ov er at_) (hb : Below W.heap.size W W') : PAt W' g s frv ov er at_ := h.of (hb.block g h.lt)
theorem PAt.set8 (h : PAt W g s frv ov er at_) (x : Value) : PAt (W.setCell ⟨g, 8, none⟩ x) g s x ov er at_ := Go.heap_setCell_same W g 8 _ _ _ h
end
/-- A value written into block g. -/
abbrev put12 (W : World) (g : Nat) (s : St) (frv ov : Value) (er at_ : Int) : World := ((((((((((((W.setCell ⟨g, 0, none⟩ (.bool s.q)).setCell ⟨g, 1, none⟩ (.bool s.x)).setCell ⟨g, 2, none⟩ (.bool s.a)).setCell ⟨g, 3, none⟩ (.bool s.i)).setCell ⟨g, 4, none⟩ (.string ⟨#[]⟩)).setCell ⟨g, 5, none⟩ (.int .u8 s.en)).setCell ⟨g, 6, none⟩ (.string s.lo)).setCell ⟨g, 7, none⟩ (.slice none 0 0)).setCell ⟨g, 8, none⟩ frv).setCell ⟨g, 9, none⟩ ov).setCell ⟨g, 10, none⟩ (.int .i64 er)).setCell ⟨g, 11, none⟩ (.int .i64 at_))
section
variable {W w0 : World} {g base b : Nat} {s s0 : St} {frv ov f0 o0 : Value} {er at_ e0 a0 : Int} {v : Value} {l : List ByteArray}
theorem put12_at (h : PAt W g s0 f0 o0 e0 a0) : PAt (put12 W g s frv ov er at_) g s frv ov er at_ := by
  unfold PAt at h ⊢
  have h0 := Go.heap_setCell_same _ g 0 _ _ (.bool s.q) h
  simp only [List.setIfInBounds_toArray, List.set_cons_succ, List.set_cons_zero] at h0
  clear h
  have h1 := Go.heap_setCell_same _ g 1 _ _ (.bool s.x) h0
  simp only [List.setIfInBounds_toArray, List.set_cons_succ, List.set_cons_zero] at h1
  clear h0
  have h2 := Go.heap_setCell_same _ g 2 _ _ (.bool s.a) h1
  simp only [List.setIfInBounds_toArray, List.set_cons_succ, List.set_cons_zero] at h2
  clear h1
  have h3 := Go.heap_setCell_same _ g 3 _ _ (.bool s.i) h2
  simp only [List.setIfInBounds_toArray, List.set_cons_succ, List.set_cons_zero] at h3
  clear h2
  have h4 := Go.heap_setCell_same _ g 4 _ _ (.string ⟨#[]⟩) h3
  simp only [List.setIfInBounds_toArray, List.set_cons_succ, List.set_cons_zero] at h4
  clear h3
  have h5 := Go.heap_setCell_same _ g 5 _ _ (.int .u8 s.en) h4
  simp only [List.setIfInBounds_toArray, List.set_cons_succ, List.set_cons_zero] at h5
  clear h4
  have h6 := Go.heap_setCell_same _ g 6 _ _ (.string s.lo) h5
  simp only [List.setIfInBounds_toArray, List.set_cons_succ, List.set_cons_zero] at h6
  clear h5
  have h7 := Go.heap_setCell_same _ g 7 _ _ (.slice none 0 0) h6
  simp only [List.setIfInBounds_toArray, List.set_cons_succ, List.set_cons_zero] at h7
  clear h6
  have h8 := Go.heap_setCell_same _ g 8 _ _ frv h7
  simp only [List.setIfInBounds_toArray, List.set_cons_succ, List.set_cons_zero] at h8
  clear h7
  have h9 := Go.heap_setCell_same _ g 9 _ _ ov h8
  simp only [List.setIfInBounds_toArray, List.set_cons_succ, List.set_cons_zero] at h9
  clear h8
  have h10 := Go.heap_setCell_same _ g 10 _ _ (.int .i64 er) h9
  simp only [List.setIfInBounds_toArray, List.set_cons_succ, List.set_cons_zero] at h10
  clear h9
  have h11 := Go.heap_setCell_same _ g 11 _ _ (.int .i64 at_) h10
  simp only [List.setIfInBounds_toArray, List.set_cons_succ, List.set_cons_zero] at h11
  clear h10
  exact h11
theorem put12_far (k : Nat) (hk : k ≠ g) : (put12 W g s frv ov er at_).heap[k]? = W.heap[k]? := by
  unfold put12
  rw [Below.heap_setCell _ _ _ _ hk, Below.heap_setCell _ _ _ _ hk, Below.heap_setCell _ _ _ _ hk, Below.heap_setCell _ _ _ _ hk, Below.heap_setCell _ _ _ _ hk, Below.heap_setCell _ _ _ _ hk, Below.heap_setCell _ _ _ _ hk, Below.heap_setCell _ _ _ _ hk, Below.heap_setCell _ _ _ _ hk, Below.heap_setCell _ _ _ _ hk, Below.heap_setCell _ _ _ _ hk, Below.heap_setCell _ _ _ _ hk]
theorem R_put (h : Kd.R Kd.string 9 W base (fun _ => True) v l) (hp : g < base) (i : Nat) (u : Value) : Kd.R Kd.string 9 (W.setCell ⟨g, i, none⟩ u) base (fun _ => True) v l :=
  Kd.R_mono (Kd.R_far (Kd.R_bound h) (p := ⟨g, i, none⟩) (fun k hk => by have := hk.2.1; show k ≠ g; omega) u) (fun _ _ => trivial)
theorem put12_R (h : Kd.R Kd.string 9 W base (fun _ => True) v l) (hp : g < base) : Kd.R Kd.string 9 (put12 W g s frv ov er at_) base (fun _ => True) v l := R_put (R_put (R_put (R_put (R_put (R_put (R_put (R_put (R_put (R_put (R_put (R_put h hp _ _) hp _ _) hp _ _) hp _ _) hp _ _) hp _ _) hp _ _) hp _ _) hp _ _) hp _ _) hp _ _) hp _ _
theorem put12_below (h : Below b w0 W) (hb : b ≤ g) : Below b w0 (put12 W g s frv ov er at_) := ((((((((((((h).setCell hb _).setCell hb _).setCell hb _).setCell hb _).setCell hb _).setCell hb _).setCell hb _).setCell hb _).setCell hb _).setCell hb _).setCell hb _).setCell hb _
end
def stZ : St := ⟨false, false, false, false, 0, ⟨#[]⟩⟩
theorem two_blocks (w : World) (o1 o2 : Obj) (W1 : World) (h : W1 = (w.alloc o1).alloc o2) : W1.heap.size = w.heap.size + 1 + 1 ∧ W1.heap[w.heap.size]? = some o1 ∧ W1.heap[w.heap.size + 1]? = some o2 ∧ Below w.heap.size w W1 := by
  subst h
  have at_ : ∀ (W : World) (o : Obj), (W.alloc o).heap[W.heap.size]? = some o := fun W o => by show (W.heap.push o)[W.heap.size]? = _; simp
  have s1 : (w.alloc o1).heap.size = w.heap.size + 1 := Array.size_push _
  refine ⟨by rw [← s1]; exact Array.size_push _, ?_, ?_, below_alloc (below_alloc (Below.refl _ _) _) _⟩
  · rw [Below.heap_alloc _ _ _ (by omega)]
    exact at_ _ _
  · rw [← s1]
    exact at_ _ _
theorem litR (W : World) (l : List ByteArray) (h : l.length ≤ 100) : Kd.R Kd.string 9 (W.alloc (.cells (l.map Value.string).toArray 9)) W.heap.size (fun _ => True) (.slice (some ⟨W.heap.size, 0, none⟩) l.length l.length) l :=
  Kd.R_of_own (by
    have h2 := World.ownsRow_lit (base := W.heap.size) (e := 9) (size := 1) W (l.map Value.string).toArray l.length (Nat.le_refl _) (by simp [maxLen]; omega) (by simp)
    simpa [encs] using h2) (fun _ _ => trivial)
theorem litC (W : World) (l : List ByteArray) (h : l.length ≤ 100) : Kd.C Kd.string (W.alloc (.cells (l.map Value.string).toArray 9)) (some ⟨W.heap.size, 0, none⟩) l.length l := (Kd.R_reads' (litR W l h)).2.2
set_option maxHeartbeats 4000000 in
set_option maxRecDepth 100000 in
theorem frag_calls (w : World) (s : St) (A : Option Addr) (c : Nat) (frs : List ByteArray) (oA : Option Addr) (on oc : Nat) (er at_ : Int) (t : ByteArray) (hC : Kd.C Kd.string w A frs.length frs) (hl : frs.length < 1000000) :
    Calls Tryd.prog 30 #[pagg s (.slice A frs.length c) (.slice oA on oc) er at_, .string t] w fun e w' => ∃ v', e = .returned (pagg s v' (.slice oA on oc) er at_) ∧ Kd.R Kd.string 9 w' w.heap.size (fun _ => True) v' (frs ++ [t]) ∧ Below w.heap.size w w' := by
  have HC := Aside0.mk hC
  have HL := Aside0.mk hl
  clear hC hl
  unfold pagg
  go_enter Tryd.func30, Tryd.ntmps30
  go_wp2_with ((with_reducible refine gate_builtin (b := .append) (xs := #[.tmp 6, .tmp 8]) rfl ?_); at_builtin; refine Aside0.out ?_)
  refine ⟨?_⟩
  obtain ⟨W1, hW1⟩ : ∃ W1, W1 = (w.alloc (.cells #[.bool s.q, .bool s.x, .bool s.a, .bool s.i, .string ⟨#[]⟩, .int .u8 s.en, .string s.lo, .slice none 0 0, .slice A frs.length c, .slice oA on oc, .int .i64 er, .int .i64 at_] 74)).alloc (.cells #[.bool false, .bool false, .bool false, .bool false, .string ⟨#[]⟩, .int .u8 0, .string ⟨#[]⟩, .slice none 0 0, .slice none 0 0, .slice none 0 0, .int .i64 0, .int .i64 0] 74) := ⟨_, rfl⟩
  rw [← hW1]
  have h2 := two_blocks w _ _ W1 hW1
  clear hW1
  have HS := Aside0.mk h2.1
  have HP : Aside0 (PAt W1 w.heap.size s (.slice A frs.length c) (.slice oA on oc) er at_) := ⟨h2.2.1⟩
  have HZ : Aside0 (PAt W1 (w.heap.size + 1) stZ (.slice none 0 0) (.slice none 0 0) 0 0) := ⟨h2.2.2.1⟩
  have HB := Aside0.mk h2.2.2.2
  have HC1 := Aside0.mk (Kd.C_below HC.out h2.2.2.2)
  clear h2
  refine Kd.R_append_rows Kd.string (w0 := W1) (w.heap.size + 1 + 1) rfl (.tmp 6) (.tmp 8) 22 9 (.string ⟨#[]⟩) 16 rfl Tryd.underlying22 PX.info9 rfl (by decide) (by omega) (.slice none 0 0) [] frs _ _ _ (fun _ => True) (fun _ => False) rfl rfl (Kd.R_nil _ _ _ _ _) HC1.out (fun _ _ h => h) (fun _ h => h.elim) (fun _ _ => trivial) (Below.refl _ _) (by rw [HS.out]; exact Nat.le_refl _) (by have := HL.out; simp; omega) ?_
  intro v1 W2 ho hb hg hat
  obtain ⟨Av, cv, rfl⟩ := Kd.R_slice ho
  rw [List.nil_append] at ho ⊢
  have HO2 := Aside0.mk ho
  have HB2 := Aside0.mk (HB.out.trans (hb.mono (by omega)))
  have HP2 := Aside0.mk (HP.out.of (hb.block w.heap.size (by omega)))
  have HZ2 := Aside0.mk (HZ.out.of (hb.block (w.heap.size + 1) (by omega)))
  have LE2 : Aside0 (w.heap.size + 1 + 1 ≤ W2.heap.size) := ⟨HZ2.out.lt⟩
  clear ho hb hg hat HP HZ HB HC1 HC
  go_wp2_with ((with_reducible refine gate_builtin (b := .append) (xs := #[.tmp 10, .tmp 12]) rfl ?_); at_builtin; refine Aside0.out ?_)
  refine ⟨?_⟩
  refine Kd.R_append_rows Kd.string (w0 := W2) (w.heap.size + 1 + 1) rfl (.tmp 10) (.tmp 12) 22 9 (.string ⟨#[]⟩) 16 rfl Tryd.underlying22 PX.info9 rfl (by decide) (by omega) (.slice Av frs.length cv) frs [t] _ _ _ (fun _ => True) (fun _ => False) rfl rfl (Kd.R_alloc HO2.out _) (litC W2 [t] (by simp)) (fun _ _ h => h) (fun _ h => h.elim) (fun _ _ => trivial) ((below_alloc (Below.refl W2.heap.size W2) _).mono LE2.out) (Nat.le_trans LE2.out (below_alloc (Below.refl W2.heap.size W2) _).size) (by have := HL.out; simp; omega) ?_
  intro v3 W3 ho hb hg hat
  obtain ⟨A3, c3, rfl⟩ := Kd.R_slice ho
  have HO3 := Aside0.mk ho
  have HB3 := Aside0.mk (HB2.out.trans (hb.mono (by omega)))
  have HP3 := Aside0.mk (HP2.out.of (hb.block w.heap.size (by omega)))
  have HZ3 := Aside0.mk (HZ2.out.of (hb.block (w.heap.size + 1) (by omega)))
  clear ho hb hg hat HP2 HZ2 HB2 HO2
  have cp := HP3.out.c
  have cz := HZ3.out.c
  have fp := HP3.out.f
  have fz := HZ3.out.f
  go_wp2
  have HF := put12_at (s := s) (frv := .slice A3 (frs.length + 1) c3) (ov := .slice oA on oc) (er := er) (at_ := at_) (HZ3.out.of (W' := W3.setCell ⟨w.heap.size, 8, none⟩ (.slice A3 (frs.length + 1) c3)) (Below.heap_setCell _ _ _ _ (Nat.succ_ne_self _)))
  refine bodyPost_ret (results_cell_row rfl _ _ (w.heap.size + 1) 74 _ (0, 0) _ rfl HF Tryd.underlying74 rfl (by kernel_rfl)) rfl ?_
  have h1 := R_put HO3.out (show w.heap.size < w.heap.size + 1 + 1 by omega) 8 (.slice A3 (frs.length + 1) c3)
  rw [List.length_append, List.length_singleton] at h1
  exact ⟨_, rfl, Kd.R_lower (put12_R h1 (by omega)) (by omega), put12_below (HB3.out.setCell (Nat.le_refl _) _) (by omega)⟩
#print axioms frag_calls
theorem lst (t : ByteArray) (l : List UInt8) (h : ¬ t = ⟨l.toArray⟩) : (t.toList == l) = false := by
  rw [beq_eq_false_iff_ne]
  intro q
  apply h
  rw [← q, ByteArray.toList_eq]
set_option maxHeartbeats 1000000 in
set_option maxRecDepth 100000 in
theorem named_calls (w : World) (t : ByteArray) : Calls Tryd.prog 49 #[.string t] w fun e w' => e = .returned (.int .u8 (PX.named t)) ∧ Below w.heap.size w w' := by
  by_cases h1 : t = ⟨#[117, 116, 102, 45, 56]⟩
  · have e : PX.named t = 1 := by rw [h1]; kernel_rfl
    rw [e]
    subst h1
    clear e
    go_enter Tryd.func49, Tryd.ntmps49
    go_wp2
    go_ret
    exact ⟨rfl, Below.refl _ _⟩
  by_cases h2 : t = ⟨#[117, 116, 102, 45, 49, 54]⟩
  · have e : PX.named t = 2 := by rw [h2]; kernel_rfl
    rw [e]
    subst h2
    clear e
    go_enter Tryd.func49, Tryd.ntmps49
    go_wp2
    go_ret
    exact ⟨rfl, Below.refl _ _⟩
  by_cases h3 : t = ⟨#[108, 97, 116, 105, 110, 49]⟩
  · have e : PX.named t = 3 := by rw [h3]; kernel_rfl
    rw [e]
    subst h3
    clear e
    go_enter Tryd.func49, Tryd.ntmps49
    go_wp2
    go_ret
    exact ⟨rfl, Below.refl _ _⟩
  have e : PX.named t = 0 := by
    unfold PX.named
    rw [if_neg (show ¬ t = PX.n1 from h1), if_neg (show ¬ t = PX.n2 from h2), if_neg (show ¬ t = PX.n3 from h3)]
  rw [e]
  have t1 := lst t [117, 116, 102, 45, 56] h1
  have t2 := lst t [117, 116, 102, 45, 49, 54] h2
  have t3 := lst t [108, 97, 116, 105, 110, 49] h3
  clear e h1 h2 h3
  go_enter Tryd.func49, Tryd.ntmps49
  go_wp2
  go_ret
  exact ⟨rfl, Below.refl _ _⟩
#print axioms named_calls
/-- What Find answers. -/
def FEnd (w : World) (t : ByteArray) (l : List PX.S54) (e : Ending) (w' : World) : Prop :=
  Below w.heap.size w w' ∧ ((findAt t l 0 < 0 ∧ e = .returned (.tuple #[.slice none 0 0, .bool false])) ∨ (¬ findAt t l 0 < 0 ∧ ∃ A1 c1, e = .returned (.tuple #[.slice A1 (PX.rd_T54 l (findAt t l 0)).f1.length c1, .bool true]) ∧ Kd.C (Kd.int .u8) w' A1 (PX.rd_T54 l (findAt t l 0)).f1.length (PX.rd_T54 l (findAt t l 0)).f1))
set_option maxHeartbeats 1000000 in
set_option maxRecDepth 100000 in
theorem find_calls (w : World) (t : ByteArray) (A : Option Addr) (c : Nat) (l : List PX.S54) (hC : Kd.C PX.k54 w A l.length l) (hl : l.length < 35184372088832) :
    Calls Tryd.prog 50 #[.slice A l.length c, .string t] w (FEnd w t l) := by
  have HC := Aside0.mk hC
  have HL := Aside0.mk hl
  obtain ⟨fr, hfr⟩ : ∃ fr, fr = findAt t l 0 := ⟨_, rfl⟩
  have HFR := Aside0.mk hfr
  have END := Aside0.mk (fun (e : Ending) (w' : World) (hb : Below w.heap.size w w') (h : (fr < 0 ∧ e = .returned (.tuple #[.slice none 0 0, .bool false])) ∨ (¬ fr < 0 ∧ ∃ A1 c1, e = .returned (.tuple #[.slice A1 (PX.rd_T54 l fr).f1.length c1, .bool true]) ∧ Kd.C (Kd.int .u8) w' A1 (PX.rd_T54 l fr).f1.length (PX.rd_T54 l fr).f1)) => (show FEnd w t l e w' from ⟨hb, by rw [← hfr]; exact h⟩))
  clear hC hl hfr
  go_enter Tryd.func50, Tryd.ntmps50
  go_wp2
  go_loopg [6] (l.length + 1) (fun kq v6 wr => ∃ (j : Nat), v6 = .int .i64 j ∧ Aside0 (kq + j = l.length + 1) ∧ Aside0 (fr = findAt t (l.drop j) j) ∧ Aside0 (Below w.heap.size w wr))
  case atStart => exact ⟨0, rfl, ⟨by omega⟩, ⟨HFR.out⟩, ⟨Below.refl _ _⟩⟩
  case round =>
    obtain ⟨j, rfl, HK, HF, HB⟩ := hrel
    by_cases hlt : j < l.length
    · obtain ⟨k1, rfl⟩ : ∃ m, gk = m + 1 := ⟨gk - 1, by have := HK.out; omega⟩
      obtain ⟨ad, A1, c1, rfl, x0, x1, hc1, hdc⟩ := PX.at_T54 (Kd.C_below HC.out HB.out) (j : Int) (by omega) (by omega)
      have t2 : ((j : Int)).toNat = j := by omega
      rw [t2] at x0 x1
      clear t2
      have t1 : decide ((j : Int) < (l.length : Int)) = true := decide_eq_true (by omega)
      have p1 : (0 : Int) ≤ (j : Int) := by omega
      have p2 : (j : Int) < (l.length : Int) := by omega
      have HF2 := HF.out
      rw [drop_T54 l j hlt] at HF2
      unfold findAt at HF2
      obtain ⟨X, hX⟩ : ∃ X, X = PX.rd_T54 l (j : Int) := ⟨_, rfl⟩
      rw [← hX] at x0 x1 HF2 hc1 hdc
      have HX := Aside0.mk hX
      have HDC := Aside0.mk hdc
      have HF3 := Aside0.mk HF2
      have HLT2 := Aside0.mk hlt
      clear HF2 hlt hX hdc hc1
      by_cases hq : (X.f0.toList == t.toList) = true
      · have HF4 := HF3.out
        rw [if_pos hq] at HF4
        go_wp2
        go_ret2
        exact END.out _ _ HB.out (.inr ⟨by omega, A1, c1, by rw [HF4, ← HX.out]; rfl, by rw [HF4, ← HX.out]; exact HDC.out⟩)
      · have hq2 : (X.f0.toList == t.toList) = false := by simpa using hq
        have HF4 := HF3.out
        rw [if_neg hq] at HF4
        have HF5 := Aside0.mk HF4
        clear HF4 hq
        go_wp2
        go_roundg k1
        case measure => omega
        case rel => exact ⟨j + 1, (by have h1 := HL.out; have h2 := HLT2.out; congr 1; unfold wrap64; omega), ⟨by have := HK.out; omega⟩, HF5, HB⟩
    · have t1 : decide ((j : Int) < (l.length : Int)) = false := decide_eq_false (by omega)
      have HF2 := HF.out
      rw [List.drop_eq_nil_of_le (by omega)] at HF2
      unfold findAt at HF2
      go_wp2
      go_ret2
      exact END.out _ _ HB.out (.inl ⟨by omega, rfl⟩)
#print axioms find_calls
end Go.Proofs.YtceflmoiiiclcaaDoor.RF
