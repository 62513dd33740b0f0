/- The document's answer for opts: a letter with its word. Conditions: rows stand in memory. -/
import Derived.Test.YtceflmoiiiclcaaDoorExtRef
namespace Go.Proofs.YtceflmoiiiclcaaDoor.RF
open Go.RowKit Go.Proofs.YtceflmoiiiclcaaDoorW.PrintWords Go.Proofs.YtceflmoiiiclcaaDoorW.PrintLast Go.Proofs.YtceflmoiiiclcaaDoorW.PrintMore
open EC
set_option linter.unusedVariables false
set_option linter.unusedSimpArgs false
section
variable {W W' : World} {g : Nat} {s : St} {frv ov : Value} {er at_ : Int}
theorem PAt.set0 (h : PAt W g s frv ov er at_) (x : Bool) : PAt (W.setCell ⟨g, 0, none⟩ (.bool x)) g { s with q := x } frv ov er at_ := Go.heap_setCell_same W g 0 _ _ _ h
theorem PAt.set1 (h : PAt W g s frv ov er at_) (x : Bool) : PAt (W.setCell ⟨g, 1, none⟩ (.bool x)) g { s with x := x } frv ov er at_ := Go.heap_setCell_same W g 1 _ _ _ h
theorem PAt.set2 (h : PAt W g s frv ov er at_) (x : Bool) : PAt (W.setCell ⟨g, 2, none⟩ (.bool x)) g { s with a := x } frv ov er at_ := Go.heap_setCell_same W g 2 _ _ _ h
theorem PAt.set3 (h : PAt W g s frv ov er at_) (x : Bool) : PAt (W.setCell ⟨g, 3, none⟩ (.bool x)) g { s with i := x } frv ov er at_ := Go.heap_setCell_same W g 3 _ _ _ h
theorem PAt.set5 (h : PAt W g s frv ov er at_) (x : Int) : PAt (W.setCell ⟨g, 5, none⟩ (.int .u8 x)) g { s with en := x } frv ov er at_ := Go.heap_setCell_same W g 5 _ _ _ h
theorem PAt.set6 (h : PAt W g s frv ov er at_) (x : ByteArray) : PAt (W.setCell ⟨g, 6, none⟩ (.string x)) g { s with lo := x } frv ov er at_ := Go.heap_setCell_same W g 6 _ _ _ h
theorem PAt.set9 (h : PAt W g s frv ov er at_) (x : Value) : PAt (W.setCell ⟨g, 9, none⟩ x) g s frv x er at_ := Go.heap_setCell_same W g 9 _ _ _ h
theorem PAt.set10 (h : PAt W g s frv ov er at_) (x : Int) : PAt (W.setCell ⟨g, 10, none⟩ (.int .i64 x)) g s frv ov x at_ := Go.heap_setCell_same W g 10 _ _ _ h
theorem PAt.set11 (h : PAt W g s frv ov er at_) (x : Int) : PAt (W.setCell ⟨g, 11, none⟩ (.int .i64 x)) g s frv ov er x := Go.heap_setCell_same W g 11 _ _ _ h
theorem PAt.far (h : PAt W g s frv ov er at_) (b i : Nat) (hb : g ≠ b) (u : Value) : PAt (W.setCell ⟨b, i, none⟩ u) g s frv ov er at_ := h.of (Below.heap_setCell _ _ _ _ hb)
end
/-- How a word ends: fragments as they were, or a row of its own. -/
def WP (w : World) (s' : St) (frv : Value) (frs frs' : List ByteArray) (ov : Value) (er at_ : Int) (e : Ending) (w' : World) : Prop :=
  ∃ v', e = .returned (pagg s' v' ov er (if er = 0 then 0 else at_)) ∧ ((v' = frv ∧ frs' = frs) ∨ Kd.R Kd.string 9 w' w.heap.size (fun _ => True) v' frs') ∧ Below w.heap.size w w'
theorem two_pat (w : World) (s : St) (frv ov : Value) (er at_ : Int) (W1 : World) (h : W1 = (w.alloc (.cells #[.bool s.q, .bool s.x, .bool s.a, .bool s.i, .string ⟨#[]⟩, .int .u8 s.en, .string s.lo, .slice none 0 0, frv, ov, .int .i64 er, .int .i64 at_] 74)).alloc (.cells #[.bool false, .bool false, .bool false, .bool false, .string ⟨#[]⟩, .int .u8 0, .string ⟨#[]⟩, .slice none 0 0, .slice none 0 0, .slice none 0 0, .int .i64 0, .int .i64 0] 74)) :
    PAt W1 w.heap.size s frv ov er at_ ∧ PAt W1 (w.heap.size + 1) stZ (.slice none 0 0) (.slice none 0 0) 0 0 ∧ Below w.heap.size w W1 := ⟨(two_blocks w _ _ W1 h).2.1, (two_blocks w _ _ W1 h).2.2.1, (two_blocks w _ _ W1 h).2.2.2⟩
set_option maxHeartbeats 4000000 in
set_option maxRecDepth 100000 in
theorem word_e (w : World) (s : St) (A : Option Addr) (c : Nat) (frs : List ByteArray) (oA : Option Addr) (on oc : Nat) (t : ByteArray) (fv : Value) (i : Int) (hC : Kd.C Kd.string w A frs.length frs) (hl : frs.length < 1000000) :
    Calls Tryd.prog 42 #[pagg s (.slice A frs.length c) (.slice oA on oc) 0 0, .int .u8 101, .string t, fv, .int .i64 i] w (WP w s (.slice A frs.length c) frs (frs ++ [t]) (.slice oA on oc) 0 i) := by
  have HC := Aside0.mk hC
  have HL := Aside0.mk hl
  clear hC hl
  unfold pagg
  go_enter Tryd.func42, Tryd.ntmps42
  go_wp2_with (go_at_call 30; refine Aside0.out ?_)
  refine ⟨?_⟩
  obtain ⟨W1, hW1⟩ : ∃ W1, W1 = (w.alloc (.cells #[.bool s.q, .bool s.x, .bool s.a, .bool s.i, .string ⟨#[]⟩, .int .u8 s.en, .string s.lo, .slice none 0 0, .slice A frs.length c, .slice oA on oc, .int .i64 0, .int .i64 0] 74)).alloc (.cells #[.bool false, .bool false, .bool false, .bool false, .string ⟨#[]⟩, .int .u8 0, .string ⟨#[]⟩, .slice none 0 0, .slice none 0 0, .slice none 0 0, .int .i64 0, .int .i64 0] 74) := ⟨_, rfl⟩
  rw [← hW1]
  have h2 := two_pat w s _ _ _ _ W1 hW1
  clear hW1
  refine (frag_calls W1 s A c frs oA on oc 0 0 t (Kd.C_below HC.out h2.2.2) HL.out).mono ?_
  rintro e W2 ⟨v', rfl, hr, hb⟩
  obtain ⟨Av, cv, rfl⟩ := Kd.R_slice hr
  have HR := Aside0.mk hr
  have HZ := Aside0.mk (h2.2.1.below hb)
  have HB := Aside0.mk (below_step h2.2.2 hb)
  have HW := Aside0.mk (show w.heap.size ≤ W1.heap.size from h2.2.2.size)
  have HW2 := Aside0.mk (show w.heap.size + 1 < W1.heap.size from h2.2.1.lt)
  unfold pagg
  clear hr hb h2
  have fz := HZ.out.f
  have cz := HZ.out.c
  go_wp2
  refine bodyPost_ret (results_cell_row rfl _ _ (w.heap.size + 1) 74 _ (0, 0) _ rfl (put12_at (s := s) (frv := .slice Av (frs.length + 1) cv) (ov := .slice oA on oc) (er := 0) (at_ := 0) HZ.out) Tryd.underlying74 rfl (by kernel_rfl)) rfl ?_
  have h1 := HR.out
  rw [List.length_append, List.length_singleton] at h1
  exact ⟨_, rfl, .inr (Kd.R_lower (put12_R h1 HW2.out) HW.out), put12_below HB.out (by omega)⟩
#print axioms word_e
set_option maxHeartbeats 4000000 in
set_option maxRecDepth 100000 in
theorem word_c0 (w : World) (s : St) (A : Option Addr) (c : Nat) (frs : List ByteArray) (oA : Option Addr) (on oc : Nat) (t : ByteArray) (fv : Value) (i : Int) (h : PX.named t = 0) :
    Calls Tryd.prog 42 #[pagg s (.slice A frs.length c) (.slice oA on oc) 0 0, .int .u8 99, .string t, fv, .int .i64 i] w (WP w { s with en := 0 } (.slice A frs.length c) frs frs (.slice oA on oc) 31 i) := by
  have HH := Aside0.mk h
  clear h
  unfold pagg
  go_enter Tryd.func42, Tryd.ntmps42
  go_wp2_with (go_at_call 49; refine Aside0.out ?_)
  refine ⟨?_⟩
  obtain ⟨W1, hW1⟩ : ∃ W1, W1 = (w.alloc (.cells #[.bool s.q, .bool s.x, .bool s.a, .bool s.i, .string ⟨#[]⟩, .int .u8 s.en, .string s.lo, .slice none 0 0, .slice A frs.length c, .slice oA on oc, .int .i64 0, .int .i64 0] 74)).alloc (.cells #[.bool false, .bool false, .bool false, .bool false, .string ⟨#[]⟩, .int .u8 0, .string ⟨#[]⟩, .slice none 0 0, .slice none 0 0, .slice none 0 0, .int .i64 0, .int .i64 0] 74) := ⟨_, rfl⟩
  rw [← hW1]
  have h2 := two_pat w s _ _ _ _ W1 hW1
  clear hW1
  have hcl := named_calls W1 t
  rw [HH.out] at hcl
  refine hcl.mono ?_
  rintro e W2 ⟨rfl, hb⟩
  have HZ := Aside0.mk (h2.2.1.below hb)
  have HP := Aside0.mk (h2.1.below hb)
  have HB := Aside0.mk (below_step h2.2.2 hb)
  clear hb h2 hcl
  have fz := HZ.out.f
  have cz := HZ.out.c
  have fp := HP.out.f
  have cp := HP.out.c
  go_wp2
  have HF := ((HZ.out.far w.heap.size 5 (Nat.succ_ne_self _) (.int .u8 0)).far w.heap.size 10 (Nat.succ_ne_self _) (.int .i64 31)).far w.heap.size 11 (Nat.succ_ne_self _) (.int .i64 i)
  have HG := put12_at (s := { s with en := 0 }) (frv := .slice A frs.length c) (ov := .slice oA on oc) (er := 31) (at_ := i) HF
  unfold put12 PAt at HG
  dsimp only at HG
  refine bodyPost_ret (results_cell_row rfl _ _ (w.heap.size + 1) 74 _ (0, 0) _ rfl HG Tryd.underlying74 rfl (by kernel_rfl)) rfl ?_
  exact ⟨_, rfl, .inl ⟨rfl, rfl⟩, put12_below (s := { s with en := 0 }) (frv := .slice A frs.length c) (ov := .slice oA on oc) (er := 31) (at_ := i) (((HB.out.setCell (Nat.le_refl _) _).setCell (Nat.le_refl _) _).setCell (Nat.le_refl _) _) (by omega)⟩
#print axioms word_c0
set_option maxHeartbeats 4000000 in
set_option maxRecDepth 100000 in
theorem word_c1 (w : World) (s : St) (A : Option Addr) (c : Nat) (frs : List ByteArray) (oA : Option Addr) (on oc : Nat) (t : ByteArray) (fv : Value) (i : Int) (n : Int) (h : PX.named t = n) (hn : ¬ n = 0) :
    Calls Tryd.prog 42 #[pagg s (.slice A frs.length c) (.slice oA on oc) 0 0, .int .u8 99, .string t, fv, .int .i64 i] w (WP w { s with en := n } (.slice A frs.length c) frs frs (.slice oA on oc) 0 i) := by
  have HH := Aside0.mk h
  clear h
  have hn2 : (n == 0) = false := beq_eq_false_iff_ne.2 hn
  clear hn
  unfold pagg
  go_enter Tryd.func42, Tryd.ntmps42
  go_wp2_with (go_at_call 49; refine Aside0.out ?_)
  refine ⟨?_⟩
  obtain ⟨W1, hW1⟩ : ∃ W1, W1 = (w.alloc (.cells #[.bool s.q, .bool s.x, .bool s.a, .bool s.i, .string ⟨#[]⟩, .int .u8 s.en, .string s.lo, .slice none 0 0, .slice A frs.length c, .slice oA on oc, .int .i64 0, .int .i64 0] 74)).alloc (.cells #[.bool false, .bool false, .bool false, .bool false, .string ⟨#[]⟩, .int .u8 0, .string ⟨#[]⟩, .slice none 0 0, .slice none 0 0, .slice none 0 0, .int .i64 0, .int .i64 0] 74) := ⟨_, rfl⟩
  rw [← hW1]
  have h2 := two_pat w s _ _ _ _ W1 hW1
  clear hW1
  have hcl := named_calls W1 t
  rw [HH.out] at hcl
  refine hcl.mono ?_
  rintro e W2 ⟨rfl, hb⟩
  have HZ := Aside0.mk (h2.2.1.below hb)
  have HP := Aside0.mk (h2.1.below hb)
  have HB := Aside0.mk (below_step h2.2.2 hb)
  clear hb h2 hcl
  have fz := HZ.out.f
  have cz := HZ.out.c
  have fp := HP.out.f
  have cp := HP.out.c
  go_wp2
  have HF := (HZ.out.far w.heap.size 5 (Nat.succ_ne_self _) (.int .u8 n))
  have HG := put12_at (s := { s with en := n }) (frv := .slice A frs.length c) (ov := .slice oA on oc) (er := 0) (at_ := 0) HF
  unfold put12 PAt at HG
  dsimp only at HG
  refine bodyPost_ret (results_cell_row rfl _ _ (w.heap.size + 1) 74 _ (0, 0) _ rfl HG Tryd.underlying74 rfl (by kernel_rfl)) rfl ?_
  exact ⟨_, rfl, .inl ⟨rfl, rfl⟩, put12_below (s := { s with en := n }) (frv := .slice A frs.length c) (ov := .slice oA on oc) (er := 0) (at_ := 0) (HB.out.setCell (Nat.le_refl _) _) (by omega)⟩
#print axioms word_c1
set_option maxHeartbeats 4000000 in
set_option maxRecDepth 100000 in
theorem word_L (w : World) (s : St) (A : Option Addr) (c : Nat) (frs : List ByteArray) (oA : Option Addr) (on oc : Nat) (t : ByteArray) (fv : Value) (i : Int) :
    Calls Tryd.prog 42 #[pagg s (.slice A frs.length c) (.slice oA on oc) 0 0, .int .u8 76, .string t, fv, .int .i64 i] w (WP w { s with lo := t } (.slice A frs.length c) frs frs (.slice oA on oc) 0 i) := by
  unfold pagg
  go_enter Tryd.func42, Tryd.ntmps42
  go_wp2
  exact bodyPost_ret (results_cell_row rfl _ _ (w.heap.size + 1) 74 _ (0, 0) _ rfl (two_blocks w _ _ _ rfl).2.2.1 Tryd.underlying74 rfl (by kernel_rfl)) rfl ⟨_, rfl, .inl ⟨rfl, rfl⟩, (two_blocks w _ _ _ rfl).2.2.2⟩
#print axioms word_L
set_option maxHeartbeats 4000000 in
set_option maxRecDepth 100000 in
theorem word_fn (w : World) (s : St) (A : Option Addr) (c : Nat) (frs : List ByteArray) (oA : Option Addr) (on oc : Nat) (t : ByteArray) (Af : Option Addr) (cf : Nat) (l : List PX.S54) (i : Int) (hL : Kd.C PX.k54 w Af l.length l) (hl : l.length < 35184372088832) (h : findAt t l 0 < 0) :
    Calls Tryd.prog 42 #[pagg s (.slice A frs.length c) (.slice oA on oc) 0 0, .int .u8 102, .string t, .slice Af l.length cf, .int .i64 i] w (WP w s (.slice A frs.length c) frs frs (.slice oA on oc) 61 i) := by
  have HF := Aside0.mk hL
  have HL := Aside0.mk hl
  have HH := Aside0.mk h
  clear h hl hL
  unfold pagg
  go_enter Tryd.func42, Tryd.ntmps42
  go_wp2_with (go_at_call 50; refine Aside0.out ?_)
  refine ⟨?_⟩
  obtain ⟨W1, hW1⟩ : ∃ W1, W1 = (w.alloc (.cells #[.bool s.q, .bool s.x, .bool s.a, .bool s.i, .string ⟨#[]⟩, .int .u8 s.en, .string s.lo, .slice none 0 0, .slice A frs.length c, .slice oA on oc, .int .i64 0, .int .i64 0] 74)).alloc (.cells #[.bool false, .bool false, .bool false, .bool false, .string ⟨#[]⟩, .int .u8 0, .string ⟨#[]⟩, .slice none 0 0, .slice none 0 0, .slice none 0 0, .int .i64 0, .int .i64 0] 74) := ⟨_, rfl⟩
  rw [← hW1]
  have h2 := two_pat w s _ _ _ _ W1 hW1
  clear hW1
  refine (find_calls W1 t Af cf l (Kd.C_below HF.out h2.2.2) HL.out).mono ?_
  rintro e W2 ⟨hb, h⟩
  rcases h with ⟨_, rfl⟩ | ⟨h, _⟩
  · have HZ := Aside0.mk (h2.2.1.below hb)
    have HP := Aside0.mk (h2.1.below hb)
    have HB := Aside0.mk (below_step h2.2.2 hb)
    clear hb h2
    have fz := HZ.out.f
    have cz := HZ.out.c
    have fp := HP.out.f
    have cp := HP.out.c
    go_wp2
    have HQ := ((HZ.out.far w.heap.size 10 (Nat.succ_ne_self _) (.int .i64 61)).far w.heap.size 11 (Nat.succ_ne_self _) (.int .i64 i))
    refine bodyPost_ret (results_cell_row rfl _ _ (w.heap.size + 1) 74 _ (0, 0) _ rfl (put12_at (s := s) (frv := .slice A frs.length c) (ov := .slice oA on oc) (er := 61) (at_ := i) HQ) Tryd.underlying74 rfl (by kernel_rfl)) rfl ?_
    exact ⟨_, rfl, .inl ⟨rfl, rfl⟩, put12_below (s := s) (frv := .slice A frs.length c) (ov := .slice oA on oc) (er := 61) (at_ := i) ((HB.out.setCell (Nat.le_refl _) _).setCell (Nat.le_refl _) _) (by omega)⟩
  · exact absurd HH.out h
#print axioms word_fn
/-- A text without its last end of line. -/
def cut1 (D : ByteArray) : ByteArray := if 0 < D.size ∧ bt D ((D.size - 1 : Nat) : Int) = 10 then D.extract 0 (D.size - 1) else D
set_option maxHeartbeats 4000000 in
set_option maxRecDepth 100000 in
theorem word_fy (w : World) (s : St) (A : Option Addr) (c : Nat) (frs : List ByteArray) (oA : Option Addr) (on oc : Nat) (t : ByteArray) (Af : Option Addr) (cf : Nat) (l : List PX.S54) (i : Int) (D : ByteArray) (hC : Kd.C Kd.string w A frs.length frs) (hlf : frs.length < 1000000) (hL : Kd.C PX.k54 w Af l.length l) (hl : l.length < 35184372088832) (h : ¬ findAt t l 0 < 0) (hD : D = strOfNums (PX.rd_T54 l (findAt t l 0)).f1) (hs : D.size < 4611686018427387904) :
    Calls Tryd.prog 42 #[pagg s (.slice A frs.length c) (.slice oA on oc) 0 0, .int .u8 102, .string t, .slice Af l.length cf, .int .i64 i] w (WP w s (.slice A frs.length c) frs (frs ++ [cut1 D]) (.slice oA on oc) 0 i) := by
  have HC := Aside0.mk hC
  have HLF := Aside0.mk hlf
  have HF := Aside0.mk hL
  have HL := Aside0.mk hl
  have HH := Aside0.mk h
  have HD := Aside0.mk hD
  have HS := Aside0.mk hs
  obtain ⟨T, hT⟩ : ∃ T, T = cut1 D := ⟨_, rfl⟩
  rw [← hT]
  have HT := Aside0.mk hT
  clear h hl hL hD hs hT hC hlf
  unfold pagg
  go_enter Tryd.func42, Tryd.ntmps42
  go_wp2_with (go_at_call 50; refine Aside0.out ?_)
  refine ⟨?_⟩
  obtain ⟨W1, hW1⟩ : ∃ W1, W1 = (w.alloc (.cells #[.bool s.q, .bool s.x, .bool s.a, .bool s.i, .string ⟨#[]⟩, .int .u8 s.en, .string s.lo, .slice none 0 0, .slice A frs.length c, .slice oA on oc, .int .i64 0, .int .i64 0] 74)).alloc (.cells #[.bool false, .bool false, .bool false, .bool false, .string ⟨#[]⟩, .int .u8 0, .string ⟨#[]⟩, .slice none 0 0, .slice none 0 0, .slice none 0 0, .int .i64 0, .int .i64 0] 74) := ⟨_, rfl⟩
  rw [← hW1]
  have h2 := two_pat w s _ _ _ _ W1 hW1
  clear hW1
  refine (find_calls W1 t Af cf l (Kd.C_below HF.out h2.2.2) HL.out).mono ?_
  rintro e W2 ⟨hb, h⟩
  rcases h with ⟨h, _⟩ | ⟨_, A1, c1, rfl, hdc⟩
  · exact absurd h (by have := HH.out; omega)
  have kcv := Kd.C_string (P := Tryd.prog) (A := A1) (c := c1) Tryd.underlying29 Tryd.underlying5 Tryd.underlying9 hdc
  rw [← HD.out] at kcv
  generalize (PX.rd_T54 l (findAt t l 0)).f1.length = dn at kcv ⊢
  have HZ := Aside0.mk (h2.2.1.below hb)
  have HP := Aside0.mk (h2.1.below hb)
  have HB := Aside0.mk (below_step h2.2.2 hb)
  have HC2 := Aside0.mk (Kd.C_below HC.out HB.out)
  have HW := Aside0.mk (show w.heap.size ≤ W2.heap.size from HB.out.size)
  have HW2 := Aside0.mk (show w.heap.size + 1 < W2.heap.size from HZ.out.lt)
  clear hb h2 hdc HD HH HF HL
  have fz := HZ.out.f
  have cz := HZ.out.c
  have fp := HP.out.f
  have cp := HP.out.c
  have KEY := Aside0.mk (frag_calls W2 s A c frs oA on oc 0 0 T HC2.out HLF.out)
  by_cases h0 : D.size = 0
  · have t1 : decide ((D.size : Int) > 0) = false := decide_eq_false (by omega)
    have t2 : decide ((0 : Int) < (D.size : Int)) = false := decide_eq_false (by omega)
    go_wp2_with (go_at_call 30; refine Aside0.out ?_)
    refine ⟨?_⟩
    have e : T = D := by
      rw [HT.out]
      unfold cut1
      rw [if_neg (by omega)]
    have hk := KEY.out
    rw [e] at hk
    have HE := Aside0.mk e
    clear e
    refine hk.mono ?_
    rintro e W3 ⟨v', rfl, hr, hb⟩
    obtain ⟨Av, cv, rfl⟩ := Kd.R_slice hr
    have HR3 := Aside0.mk hr
    have HZ3 := Aside0.mk (HZ.out.below hb)
    have HB3 := Aside0.mk (below_step HB.out hb)
    clear hr hb hk fz cz fp cp
    unfold pagg
    have fz := HZ3.out.f
    have cz := HZ3.out.c
    go_wp2
    refine bodyPost_ret (results_cell_row rfl _ _ (w.heap.size + 1) 74 _ (0, 0) _ rfl (put12_at (s := s) (frv := .slice Av (frs.length + 1) cv) (ov := .slice oA on oc) (er := 0) (at_ := 0) HZ3.out) Tryd.underlying74 rfl (by kernel_rfl)) rfl ?_
    have h1 := HR3.out
    rw [List.length_append, List.length_singleton, ← HE.out] at h1
    exact ⟨_, rfl, .inr (Kd.R_lower (put12_R h1 HW2.out) HW.out), put12_below HB3.out (by omega)⟩
  · obtain ⟨m, hm⟩ : ∃ m, D.size = m + 1 := ⟨D.size - 1, by omega⟩
    have t1 : decide ((D.size : Int) > 0) = true := decide_eq_true (by omega)
    have t2 : decide ((0 : Int) < (D.size : Int)) = true := decide_eq_true (by omega)
    have hw : wrap64 ((D.size : Int) - 1) = (m : Int) := by have := HS.out; unfold wrap64; omega
    have q0 : (0 : Int) ≤ (m : Int) := by omega
    have q1 : (m : Int) < (D.size : Int) := by omega
    have q2 : (m : Int) ≤ (D.size : Int) := by omega
    have HBT : Aside0 (∀ (h : m < D.size), (((D[m]'h).toNat : Nat) : Int) = bt D ((D.size - 1 : Nat) : Int)) := ⟨fun h => by
      rw [hm]
      exact bt_at D (m : Int) h⟩
    have HM := Aside0.mk hm
    clear hm
    by_cases hq : bt D ((D.size - 1 : Nat) : Int) = 10
    · have t3 : ∀ (h : m < D.size), ((((D[m]'h).toNat : Nat) : Int) == 10) = true := fun h => by rw [HBT.out, hq]; rfl
      have HQ := Aside0.mk hq
      clear hq
      go_wp2_with (go_at_call 30; refine Aside0.out ?_)
      refine ⟨?_⟩
      have e : T = D.extract 0 m := by
        rw [HT.out]
        unfold cut1
        rw [if_pos ⟨by omega, HQ.out⟩, HM.out]
        rfl
      have hk := KEY.out
      rw [e] at hk
      have HE := Aside0.mk e
      clear e
      refine hk.mono ?_
      rintro e W3 ⟨v', rfl, hr, hb⟩
      obtain ⟨Av, cv, rfl⟩ := Kd.R_slice hr
      have HR3 := Aside0.mk hr
      have HZ3 := Aside0.mk (HZ.out.below hb)
      have HB3 := Aside0.mk (below_step HB.out hb)
      clear hr hb hk fz cz fp cp
      unfold pagg
      have fz := HZ3.out.f
      have cz := HZ3.out.c
      go_wp2
      refine bodyPost_ret (results_cell_row rfl _ _ (w.heap.size + 1) 74 _ (0, 0) _ rfl (put12_at (s := s) (frv := .slice Av (frs.length + 1) cv) (ov := .slice oA on oc) (er := 0) (at_ := 0) HZ3.out) Tryd.underlying74 rfl (by kernel_rfl)) rfl ?_
      have h1 := HR3.out
      rw [List.length_append, List.length_singleton, ← HE.out] at h1
      exact ⟨_, rfl, .inr (Kd.R_lower (put12_R h1 HW2.out) HW.out), put12_below HB3.out (by omega)⟩
    · have t3 : ∀ (h : m < D.size), ((((D[m]'h).toNat : Nat) : Int) == 10) = false := fun h => by rw [HBT.out]; exact beq_eq_false_iff_ne.2 hq
      have HQ := Aside0.mk hq
      clear hq
      go_wp2_with (go_at_call 30; refine Aside0.out ?_)
      refine ⟨?_⟩
      have e : T = D := by
        rw [HT.out]
        unfold cut1
        rw [if_neg (fun h => HQ.out h.2)]
      have hk := KEY.out
      rw [e] at hk
      have HE := Aside0.mk e
      clear e
      refine hk.mono ?_
      rintro e W3 ⟨v', rfl, hr, hb⟩
      obtain ⟨Av, cv, rfl⟩ := Kd.R_slice hr
      have HR3 := Aside0.mk hr
      have HZ3 := Aside0.mk (HZ.out.below hb)
      have HB3 := Aside0.mk (below_step HB.out hb)
      clear hr hb hk fz cz fp cp
      unfold pagg
      have fz := HZ3.out.f
      have cz := HZ3.out.c
      go_wp2
      refine bodyPost_ret (results_cell_row rfl _ _ (w.heap.size + 1) 74 _ (0, 0) _ rfl (put12_at (s := s) (frv := .slice Av (frs.length + 1) cv) (ov := .slice oA on oc) (er := 0) (at_ := 0) HZ3.out) Tryd.underlying74 rfl (by kernel_rfl)) rfl ?_
      have h1 := HR3.out
      rw [List.length_append, List.length_singleton, ← HE.out] at h1
      exact ⟨_, rfl, .inr (Kd.R_lower (put12_R h1 HW2.out) HW.out), put12_below HB3.out (by omega)⟩
#print axioms word_fy
theorem ext_last (D : ByteArray) (n : Nat) (h : D.size = n + 1) : (D.extract n D.size).toList = [D[n]'(by omega)] := by
  rw [ByteArray.toList_eq, ByteArray.data_extract, Array.toList_extract, List.extract_eq_take_drop]
  have hl : n < D.data.toList.length := by
    have : D.data.toList.length = D.size := Array.length_toList
    omega
  rw [List.drop_eq_getElem_cons hl, show D.size - n = 0 + 1 by omega, List.take_succ_cons, List.take_zero]
  congr 1
theorem trim_cut (D tr : ByteArray) (hs : D.size < 4611686018427387904) (h : PS.strings_TrimSuffix.f D ⟨#[10]⟩ = some tr) : tr = cut1 D := by
  unfold PS.strings_TrimSuffix.f PS.stringslite_TrimSuffix.f PS.stringslite_HasSuffix.f at h
  rw [show (⟨#[10]⟩ : ByteArray).size = 1 from rfl] at h
  unfold cut1
  by_cases c : (D.size : Int) ≥ ((1 : Nat) : Int)
  · obtain ⟨n, hn⟩ : ∃ n, D.size = n + 1 := ⟨D.size - 1, by omega⟩
    have hw : wrap64 ((D.size : Int) - ((1 : Nat) : Int)) = ((n : Nat) : Int) := by unfold wrap64; omega
    have hb : bt D ((D.size - 1 : Nat) : Int) = (((D[n]'(by omega)).toNat : Nat) : Int) := by
      rw [show D.size - 1 = n by omega]
      exact (bt_at D (n : Int) (by rw [Int.toNat_natCast]; omega)).symm
    rw [if_pos c, hw, if_pos (by omega), if_pos (by omega), Option.bind_some, Int.toNat_natCast, ext_last D n hn, show (⟨#[10]⟩ : ByteArray).toList = [10] by kernel_rfl] at h
    rw [hb]
    by_cases d : D[n]'(by omega) = 10
    · rw [if_pos (by rw [d]; rfl), if_pos (by omega), if_pos (by omega)] at h
      rw [if_pos ⟨by omega, by rw [d]; rfl⟩, show D.size - 1 = n by omega]
      exact (Option.some.inj h).symm
    · rw [if_neg (by
        intro q
        have q2 := eq_of_beq q
        exact d (List.cons.inj q2).1)] at h
      rw [if_neg (fun q => d (by
        have q2 := q.2
        apply UInt8.toNat_inj.1
        have : (D[n]'(by omega)).toNat = 10 := by omega
        exact this))]
      exact (Option.some.inj h).symm
  · rw [if_neg c] at h
    rw [if_neg (by omega)]
    exact (Option.some.inj h).symm
#print axioms trim_cut
theorem nums_len (l : List Int) : (strOfNums l).size = l.length := by
  show (Array.size _) = _
  simp [strOfNums]
/-- A letter with its word. -/
theorem refword_calls (w : World) (s s' : St) (A : Option Addr) (c : Nat) (frs frs' : List ByteArray) (oA : Option Addr) (on oc : Nat) (k : Int) (hk : k = 101 ∨ k = 102 ∨ k = 99 ∨ k = 76) (t : ByteArray) (Af : Option Addr) (cf : Nat) (l : List PX.S54) (i er : Int) (hC : Kd.C Kd.string w A frs.length frs) (hlf : frs.length < 1000000) (hL : Kd.C PX.k54 w Af l.length l) (hl : l.length < 35184372088832) (hd : ∀ x ∈ l, x.f1.length < 4611686018427387904)
    (h : wordF l k t s frs = some (s', frs', er)) :
    Calls Tryd.prog 42 #[pagg s (.slice A frs.length c) (.slice oA on oc) 0 0, .int .u8 k, .string t, .slice Af l.length cf, .int .i64 i] w (WP w s' (.slice A frs.length c) frs frs' (.slice oA on oc) er i) := by
  unfold wordF at h
  rcases hk with rfl | rfl | rfl | rfl
  · rw [if_pos rfl] at h
    cases h
    exact word_e w s A c frs oA on oc t _ i hC hlf
  · rw [if_neg (by decide), if_pos rfl] at h
    by_cases hf : findAt t l 0 < 0
    · rw [if_pos hf] at h
      cases h
      exact word_fn w s A c frs oA on oc t Af cf l i hL hl hf
    · rw [if_neg hf] at h
      obtain ⟨tr, htr, he⟩ := Option.map_eq_some_iff.1 h
      cases he
      have hb : (PX.rd_T54 l (findAt t l 0)).f1.length < 4611686018427387904 := by
        unfold PX.rd_T54
        rw [List.getD_eq_getElem?_getD]
        rcases Nat.lt_or_ge (findAt t l 0).toNat l.length with q | q
        · rw [List.getElem?_eq_getElem q]
          exact hd _ (List.getElem_mem q)
        · rw [List.getElem?_eq_none q]
          exact (by decide : (0 : Nat) < 4611686018427387904)
      rw [trim_cut _ tr (by rw [nums_len]; exact hb) htr]
      exact word_fy w s A c frs oA on oc t Af cf l i _ hC hlf hL hl hf rfl (by rw [nums_len]; exact hb)
  · rw [if_neg (by decide), if_neg (by decide), if_pos rfl] at h
    by_cases hn : PX.named t = 0
    · rw [if_pos hn, hn] at h
      cases h
      exact word_c0 w s A c frs oA on oc t _ i hn
    · rw [if_neg hn] at h
      cases h
      exact word_c1 w s A c frs oA on oc t _ i _ rfl hn
  · rw [if_neg (by decide), if_neg (by decide), if_neg (by decide), if_pos rfl] at h
    cases h
    exact word_L w s A c frs oA on oc t _ i
#print axioms refword_calls
end Go.Proofs.YtceflmoiiiclcaaDoor.RF
