/- opts: what the letters' functions and the words' functions do to the reader (but 'f'). Conditions: the reader is in block g, its fragments are a row of its own behind it. -/
import Derived.Test.YtceflmoiiiclcaaDoorExtRd
import Derived.Test.YtceflmoiiiclcaaDoorExtNamed
import Derived.Test.YtceflmoiiiclcaaDoorPX0
import Derived.OwnWalk
import Derived.Deep.RegionHeld3
import Derived.Outline
namespace Go.Proofs.YtceflmoiiiclcaaDoor.EC
open Go.RowKit Go.Proofs.YtceflmoiiiclcaaDoorW.PrintWords Go.Proofs.YtceflmoiiiclcaaDoorW.PrintLast Go.Proofs.YtceflmoiiiclcaaDoorW.PrintMore
set_option linter.unusedVariables false
set_option linter.unusedSimpArgs false

/-- The pointer to the reader in block b. -/
def PtrAt (W : World) (b g : Nat) : Prop := W.heap[b]? = some (.cells #[.pointer (some ⟨g, 0, none⟩)] 47 (0, 0))
theorem PtrAt.c {W : World} {b g : Nat} (h : PtrAt W b g) : W.cell? ⟨b, 0, none⟩ = some (.pointer (some ⟨g, 0, none⟩)) := by unfold PtrAt at h; simp [World.cell?, h]
theorem PtrAt.lt {W : World} {b g : Nat} (h : PtrAt W b g) : b < W.heap.size := (Array.getElem?_eq_some_iff.1 h).1
theorem PtrAt.of {W W' : World} {b g : Nat} (h : PtrAt W b g) (hW : W'.heap[b]? = W.heap[b]?) : PtrAt W' b g := hW.trans h
theorem PtrAt.below {W W' : World} {b g : Nat} (h : PtrAt W b g) (hb : Below W.heap.size W W') : PtrAt W' b g := h.of (hb.block b h.lt)
theorem PtrAt.set {W : World} {b g i : Nat} {u : Value} (h : PtrAt W b g) (hne : b ≠ g) : PtrAt (W.setCell ⟨g, i, none⟩ u) b g := h.of (Below.heap_setCell W ⟨g, i, none⟩ u b hne)
theorem flag31 (W : World) (b g : Nat) (s : St) (fv fr : Value) (hb : PtrAt W b g) (hr : RdAt W g s fv fr) : Calls Tryd.prog 31 #[.pointer (some ⟨b, 0, none⟩)] W fun e w' => e = .returned (.tuple #[]) ∧ w' = W.setCell ⟨g, 0, none⟩ (.bool true) := by
  have c := hr.c0
  have f := hr.f 0
  replace hb := hb.c
  go_enter Tryd.func31, Tryd.ntmps31
  go_wp2
  go_end0
  exact ⟨rfl, rfl⟩
theorem flag32 (W : World) (b g : Nat) (s : St) (fv fr : Value) (hb : PtrAt W b g) (hr : RdAt W g s fv fr) : Calls Tryd.prog 32 #[.pointer (some ⟨b, 0, none⟩)] W fun e w' => e = .returned (.tuple #[]) ∧ w' = W.setCell ⟨g, 1, none⟩ (.bool true) := by
  have c := hr.c1
  have f := hr.f 1
  replace hb := hb.c
  go_enter Tryd.func32, Tryd.ntmps32
  go_wp2
  go_end0
  exact ⟨rfl, rfl⟩
theorem flag33 (W : World) (b g : Nat) (s : St) (fv fr : Value) (hb : PtrAt W b g) (hr : RdAt W g s fv fr) : Calls Tryd.prog 33 #[.pointer (some ⟨b, 0, none⟩)] W fun e w' => e = .returned (.tuple #[]) ∧ w' = W.setCell ⟨g, 2, none⟩ (.bool true) := by
  have c := hr.c2
  have f := hr.f 2
  replace hb := hb.c
  go_enter Tryd.func33, Tryd.ntmps33
  go_wp2
  go_end0
  exact ⟨rfl, rfl⟩
theorem flag34 (W : World) (b g : Nat) (s : St) (fv fr : Value) (hne : b ≠ g) (hb : PtrAt W b g) (hr : RdAt W g s fv fr) : Calls Tryd.prog 34 #[.pointer (some ⟨b, 0, none⟩)] W fun e w' => e = .returned (.tuple #[]) ∧ RdAt w' g { s with a := true, i := true } fv fr ∧ ∃ i j, w' = ((W.setCell ⟨g, i, none⟩ (.bool true)).setCell ⟨g, j, none⟩ (.bool true)).drew := by
  have END := Aside0.mk ((hr.set2 true).set3 true)
  have END2 := Aside0.mk ((hr.set3 true).set2 true)
  have c := hr.c2
  have c3 := hr.c3
  have f := hr.f 2
  have f3 := hr.f 3
  have c3' := (hr.set2 true).c3
  have f3' := (hr.set2 true).f 3
  have c2' := (hr.set3 true).c2
  have f2' := (hr.set3 true).f 2
  have h2 : (W.setCell ⟨g, 2, none⟩ (.bool true)).cell? ⟨b, 0, none⟩ = some (.pointer (some ⟨g, 0, none⟩)) := (hb.set hne).c
  have h3 : (W.setCell ⟨g, 3, none⟩ (.bool true)).cell? ⟨b, 0, none⟩ = some (.pointer (some ⟨g, 0, none⟩)) := (hb.set hne).c
  have h23 : ((W.setCell ⟨g, 2, none⟩ (.bool true)).setCell ⟨g, 3, none⟩ (.bool true)).cell? ⟨b, 0, none⟩ = some (.pointer (some ⟨g, 0, none⟩)) := ((hb.set hne).set hne).c
  have h32 : ((W.setCell ⟨g, 3, none⟩ (.bool true)).setCell ⟨g, 2, none⟩ (.bool true)).cell? ⟨b, 0, none⟩ = some (.pointer (some ⟨g, 0, none⟩)) := ((hb.set hne).set hne).c
  replace hb := hb.c
  clear hr
  go_enter Tryd.func34, Tryd.ntmps34
  go_wp2
  go_region_held3 (fun W' => W'.cell? ⟨b, 0, none⟩ = some (.pointer (some ⟨g, 0, none⟩))) (first | exact hb | exact h2 | exact h3 | exact h23 | exact h32) (fail)
  all_goals go_end0
  all_goals first | exact ⟨rfl, END.out.of rfl, _, _, rfl⟩ | exact ⟨rfl, END2.out.of rfl, _, _, rfl⟩

/-- All blocks but the reader's, and the one in which fragments stand, are as they were. -/
def Keep (W W' : World) (g : Nat) (v : Value) : Prop := ∀ k, k < W.heap.size → k ≠ g → some k ≠ v.ownBlock → W'.heap[k]? = W.heap[k]?
/-- A row stands in the block of the elder one, or in a new one. -/
def Own (W : World) (v v' : Value) : Prop := v'.ownBlock = v.ownBlock ∨ ∃ b, v'.ownBlock = some b ∧ W.heap.size ≤ b
theorem Keep.set {W W1 : World} {g i : Nat} {v u : Value} (h : Keep W W1 g v) : Keep W (W1.setCell ⟨g, i, none⟩ u) g v := fun k h1 h2 h3 => (Below.heap_setCell W1 ⟨g, i, none⟩ u k h2).trans (h k h1 h2 h3)
theorem Keep.refl (W : World) (g : Nat) (v : Value) : Keep W W g v := fun _ _ _ _ => rfl
theorem Keep.of_below {W W1 : World} {g : Nat} {v : Value} (h : Below W.heap.size W W1) : Keep W W1 g v := fun k h1 _ _ => h.block k h1
theorem Keep.trans {W W1 W2 : World} {g : Nat} {v : Value} (h : Keep W W1 g v) (h2 : Keep W1 W2 g v) (hs : W.heap.size ≤ W1.heap.size) : Keep W W2 g v := fun k a b c => (h2 k (Nat.lt_of_lt_of_le a hs) b c).trans (h k a b c)
/-- How a word ends. -/
def WEnd (W : World) (g : Nat) (fr : Value) (s' : St) (fv : Value) (frs' : List ByteArray) (er : Int) (e : Ending) (w' : World) : Prop :=
  e = .returned (.int .u16 er) ∧ ∃ fr', RdAt w' g s' fv fr' ∧ Kd.R Kd.string 9 w' (g + 1) (fun _ => True) fr' frs' ∧ Below g W w' ∧ Keep W w' g fr ∧ Own W fr fr'
theorem R_at_set {W : World} {g i : Nat} {v : Value} {l : List ByteArray} (h : Kd.R Kd.string 9 W (g + 1) (fun _ => True) v l) (u : Value) : Kd.R Kd.string 9 (W.setCell ⟨g, i, none⟩ u) (g + 1) (fun _ => True) v l :=
  Kd.R_mono (Kd.R_far (Kd.R_bound h) (p := ⟨g, i, none⟩) (fun k hk => by have := hk.2.1; show k ≠ g; omega) u) (fun _ _ => trivial)

theorem word39 (W : World) (b g : Nat) (s : St) (fv fr : Value) (frs : List ByteArray) (t : ByteArray) (hb : PtrAt W b g) (hr : RdAt W g s fv fr) (hR : Kd.R Kd.string 9 W (g + 1) (fun _ => True) fr frs) :
    Calls Tryd.prog 39 #[.string t, .pointer (some ⟨b, 0, none⟩)] W (WEnd W g fr { s with lo := t } fv frs 0) := by
  have END : Aside0 (WEnd W g fr { s with lo := t } fv frs 0 (.returned (.int .u16 0)) (W.setCell ⟨g, 6, none⟩ (.string t))) := ⟨rfl, fr, hr.set6 t, R_at_set hR _, (Below.refl g W).setCell (Nat.le_refl g) _, (Keep.refl W g fr).set, .inl rfl⟩
  have c := hr.c6
  have f := hr.f 6
  replace hb := hb.c
  clear hR
  go_enter Tryd.func39, Tryd.ntmps39
  go_wp2
  go_ret
  exact END.out

set_option maxHeartbeats 1000000 in
set_option maxRecDepth 100000 in
theorem word37 (W : World) (b g : Nat) (hne : b ≠ g) (s : St) (fv fr : Value) (frs : List ByteArray) (t : ByteArray) (hb : PtrAt W b g) (hr : RdAt W g s fv fr) (hR : Kd.R Kd.string 9 W (g + 1) (fun _ => True) fr frs) :
    Calls Tryd.prog 37 #[.string t, .pointer (some ⟨b, 0, none⟩)] W (WEnd W g fr { s with en := PX.named t } fv frs (if PX.named t = 0 then 31 else 0)) := by
  have END : Aside0 (∀ W1, Below W.heap.size W W1 → RdAt W1 g s fv fr ∧ WEnd W g fr { s with en := PX.named t } fv frs (if PX.named t = 0 then 31 else 0) (.returned (.int .u16 (if PX.named t = 0 then 31 else 0))) (W1.setCell ⟨g, 5, none⟩ (.int .u8 (PX.named t)))) := ⟨fun W1 hB =>
    ⟨hr.below hB, rfl, fr, (hr.below hB).set5 _, R_at_set (Kd.R_below hR hB) _, (hB.mono (Nat.le_of_lt hr.lt)).setCell (Nat.le_refl g) _, (Keep.of_below hB).set, .inl rfl⟩⟩
  have key := fun w => PX.codec_Named.calls t (PX.named t) w rfl
  have HBK := Aside0.mk (fun W1 (hB : Below W.heap.size W W1) => And.intro (hb.below hB).c ((hb.below hB).set (i := 5) (u := .int .u8 (PX.named t)) hne).c)
  replace hb := hb.c
  obtain ⟨n, hn⟩ : ∃ n, n = PX.named t := ⟨_, rfl⟩
  rw [← hn] at END key HBK ⊢
  obtain ⟨er, her⟩ : ∃ er : Int, er = if n = 0 then 31 else 0 := ⟨_, rfl⟩
  rw [← her] at END ⊢
  have HER := Aside0.mk her
  clear hR hn hr her
  go_enter Tryd.func37, Tryd.ntmps37
  go_wp2
  go_region_held3 (fun W' => W'.cell? ⟨b, 0, none⟩ = some (.pointer (some ⟨g, 0, none⟩))) (first | exact hb | exact hbb | exact hb2) ((go_at_call 38; refine (key _).mono ?_; rintro e w1 ⟨rfl, hB0⟩; have hB := below_step (below_drew1 (Below.refl W.heap.size W)) hB0; have HB := Aside0.mk hB; have hbb := (HBK.out _ hB).1; have hb2 := (HBK.out _ hB).2; have hd := (END.out _ hB).1; have c := hd.c5; have f := hd.f 5; have c2 := (hd.set5 n).c5; clear hB hB0 hd))
  all_goals go_wp2
  all_goals
    rename_i hq
    have he := HER.out
    first
      | (rw [if_pos (beq_iff_eq.1 hq)] at he; subst he; go_ret; exact (END.out _ HB.out).2)
      | (rw [if_neg (beq_eq_false_iff_ne.1 hq)] at he; subst he; go_ret; exact (END.out _ HB.out).2)
set_option maxHeartbeats 1000000 in
set_option maxRecDepth 100000 in
theorem word35 (W : World) (b g : Nat) (hne : b ≠ g) (s : St) (fv fr : Value) (frs : List ByteArray) (t : ByteArray) (hb : PtrAt W b g) (hr : RdAt W g s fv fr) (hR : Kd.R Kd.string 9 W (g + 1) (fun k => k ≠ b) fr frs) (hl : frs.length < 1000000) :
    Calls Tryd.prog 35 #[.string t, .pointer (some ⟨b, 0, none⟩)] W (WEnd W g fr s fv (frs ++ [t]) 0) := by
  obtain ⟨A2, c2, rfl⟩ := Kd.R_slice hR
  have HR := Aside0.mk hR
  have HLT := Aside0.mk (show g + 1 ≤ W.drew.heap.size from hr.lt)
  have HLN := Aside0.mk (show (frs.length + 1) * 16 ≤ 140737488355328 by omega)
  have HBL := Aside0.mk (fun (k : Nat) (hk : W.drew.heap.size ≤ k) => (show k ≠ b from fun e => absurd hb.lt (by subst e; exact Nat.not_lt.2 hk)))
  have HP := Aside0.mk (fun (w1 : World) (hg : W.drew.grownBy w1 (Value.slice A2 frs.length c2).ownBlock) => hb.of (W' := w1) (hg.block b hb.lt (fun e => HR.out.1 b e.symm rfl)))
  clear hR hl
  go_enter Tryd.func35, Tryd.ntmps35
  go_wp2
  refine start_ (n := 11) (S := fun w' => w'.cell? ⟨b, 0, none⟩ = some (.pointer (some ⟨g, 0, none⟩)) ∧ w'.cell? ⟨g, 9, none⟩ = some (.slice A2 frs.length c2)) (ds := [10]) #[false, false, false, false, false, false, false, false, false, false, false] (by kernel_rfl) rfl rfl (⟨hb.c, hr.c9⟩) (fun hHeld => ?_)
  have hba := (hb.below ((Below.refl W.heap.size W).drew.alloc (Nat.le_refl _) (.cells #[.string t] 9))).c
  have hra := (hr.below ((Below.refl W.heap.size W).drew.alloc (Nat.le_refl _) (.cells #[.string t] 9))).c9
  refine take_ (i := 0) (N := some 4) (v := ?_) (a' := ?_) #[true, false, false, false, false, false, false, false, false, false, false] rfl rfl (by kernel_rfl) (fun _ _ _ h => h) (Or.inl ⟨by rfl, ?_⟩) hHeld ?_ ?_
  rotate_left
  · rintro w' ⟨s0, s1⟩
    go_simp
    try with_reducible rfl
  rotate_left
  · simp only [Act.put, List.setIfInBounds_toArray, List.set_cons_zero, List.set_cons_succ]
    rfl
  refine take_ (i := 1) (N := some 5) (v := ?_) (a' := ?_) #[true, true, false, false, false, false, false, false, false, false, false] rfl rfl (by kernel_rfl) (fun _ _ _ h => h) (Or.inl ⟨by rfl, ?_⟩) hHeld ?_ ?_
  rotate_left
  · rintro w' ⟨s0, s1⟩
    go_simp
    try with_reducible rfl
  rotate_left
  · simp only [Act.put, List.setIfInBounds_toArray, List.set_cons_zero, List.set_cons_succ]
    rfl
  refine pure_ (i := 2) (N := some 6) (v := ?_) (a' := ?_) #[true, true, true, false, false, false, false, false, false, false, false] rfl rfl (by kernel_rfl) (fun _ _ _ h => h) (Or.inl ⟨by rfl, ?_⟩) ?_ ?_
  rotate_left
  · intro w'
    go_simp
    try with_reducible rfl
  rotate_left
  · simp only [Act.put, List.setIfInBounds_toArray, List.set_cons_zero, List.set_cons_succ]
    rfl
  refine pure_ (i := 3) (N := some 7) (v := ?_) (a' := ?_) #[true, true, true, true, false, false, false, false, false, false, false] rfl rfl (by kernel_rfl) (fun _ _ _ h => h) (Or.inl ⟨by rfl, ?_⟩) ?_ ?_
  rotate_left
  · intro w'
    go_simp
    try with_reducible rfl
  rotate_left
  · simp only [Act.put, List.setIfInBounds_toArray, List.set_cons_zero, List.set_cons_succ]
    rfl
  refine take_ (i := 4) (N := some 8) (v := ?_) (a' := ?_) #[true, true, true, true, true, false, false, false, false, false, false] rfl rfl (by kernel_rfl) (fun _ _ _ h => h) (Or.inl ⟨by rfl, ?_⟩) hHeld ?_ ?_
  rotate_left
  · rintro w' ⟨s0, s1⟩
    go_simp
    try with_reducible rfl
  rotate_left
  · simp only [Act.put, List.setIfInBounds_toArray, List.set_cons_zero, List.set_cons_succ]
    rfl
  refine pure_ (i := 5) (N := some 9) (v := ?_) (a' := ?_) #[true, true, true, true, true, true, false, false, false, false, false] rfl rfl (by kernel_rfl) (fun _ _ _ h => h) (Or.inl ⟨by rfl, ?_⟩) ?_ ?_
  rotate_left
  · intro w'
    go_simp
    try with_reducible rfl
  rotate_left
  · simp only [Act.put, List.setIfInBounds_toArray, List.set_cons_zero, List.set_cons_succ]
    rfl
  refine one_ (i := 6) (N := some 10) #[true, true, true, true, true, true, true, false, false, false, false] rfl rfl (by kernel_rfl) (by decide) (fun K hK => ?_)
  refine value_ (w1 := W.drew.alloc (.cells #[.string t] 9)) (v := .slice (some ⟨W.drew.heap.size, 0, none⟩) 1 1) (by rfl) rfl (by go_simp) ?_
  refine hK.out _ _ (⟨hba, hra⟩) (fun hHeld => ?_)
  clear hK K
  refine norm_ (a' := ?_) ?_ ?_
  rotate_left
  · show Act.put _ (some 10) _ = _
    simp only [Act.put, List.setIfInBounds_toArray, List.set_cons_zero, List.set_cons_succ]
    rfl
  refine one_ (i := 7) (N := some 11) #[true, true, true, true, true, true, true, true, false, false, false] rfl rfl (by kernel_rfl) (by decide) (fun K hK => ?_)
  refine Kd.R_append_step Kd.string (w0 := W) (W := W.drew) (g + 1) (by rfl) (.tmp 8) (.tmp 10) 22 9 (.string ⟨#[]⟩) 16 rfl Tryd.underlying22 PX.info9 rfl (by decide) (by decide) (.slice A2 frs.length c2) frs t [.string t] (fun k => k ≠ b) (fun _ => False) rfl rfl rfl (fun _ hk => hk.elim) (fun k hk => HBL.out k hk) (Kd.R_drew HR.out) (below_drew1 (Below.refl _ _)) HLT.out HLN.out ?_
  intro v1 w1 ho hb1 hg1 hat1
  obtain ⟨A3, c3, rfl⟩ := Kd.R_slice ho
  have hp1 := HP.out w1 hg1
  have hd1 := hr.of (hb1.block g (Nat.lt_succ_self g))
  refine hK.out _ _ (⟨hp1.c, hd1.c9⟩) (fun hHeld => ?_)
  clear hK K
  refine norm_ (a' := ?_) ?_ ?_
  rotate_left
  · show Act.put _ (some 11) _ = _
    simp only [Act.put, List.setIfInBounds_toArray, List.set_cons_zero, List.set_cons_succ]
    rfl
  refine pure_ (i := 8) (N := some 12) (v := ?_) (a' := ?_) #[true, true, true, true, true, true, true, true, true, false, false] rfl rfl (by kernel_rfl) (fun _ _ _ h => h) (Or.inl ⟨by rfl, ?_⟩) ?_ ?_
  rotate_left
  · intro w'
    go_simp
    try with_reducible rfl
  rotate_left
  · simp only [Act.put, List.setIfInBounds_toArray, List.set_cons_zero, List.set_cons_succ]
    rfl
  refine pure_ (i := 9) (N := some 13) (v := ?_) (a' := ?_) #[true, true, true, true, true, true, true, true, true, true, false] rfl rfl (by kernel_rfl) (fun _ _ _ h => h) (Or.inl ⟨by rfl, ?_⟩) ?_ ?_
  rotate_left
  · intro w'
    go_simp
    try with_reducible rfl
  rotate_left
  · simp only [Act.put, List.setIfInBounds_toArray, List.set_cons_zero, List.set_cons_succ]
    rfl
  refine last_ (i := 10) (N := none) #[true, true, true, true, true, true, true, true, true, true, true] rfl rfl (by kernel_rfl) (by decide) (fun K hK => ?_)
  have f9 := hd1.f 9
  have c9 := hd1.c9
  refine skip_ (w1 := w1.setCell ⟨g, 9, none⟩ (.slice A3 (frs ++ [t]).length c3)) (by rfl) rfl (by first | (go_simp; done) | (go_simp; rfl)) ?_
  refine hK.out _ _ ?_
  clear hK K
  refine done_ (by kernel_rfl) ?_
  go_wp2
  go_ret
  exact ⟨rfl, _, hd1.set9 _, R_at_set (Kd.R_mono ho (fun _ _ => trivial)) _, (hb1.mono (Nat.le_succ g)).setCell (Nat.le_refl g) _, Keep.set (fun k h1 _ h3 => hg1.block k h1 h3), hat1⟩
#print axioms flag34
#print axioms word39
end Go.Proofs.YtceflmoiiiclcaaDoor.EC
