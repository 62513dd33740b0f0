/- opts: the word 'f': slices.IndexFunc over the files, and the file's text as a fragment. Conditions: the files stand in memory, the reader is in block g, its fragments are a row of its own behind it. -/
import Derived.Test.YtceflmoiiiclcaaDoorExtWord
import Derived.Test.YtceflmoiiiclcaaDoorPS1
namespace Go.Proofs.YtceflmoiiiclcaaDoor.EC
open Go.RowKit Go.Proofs.YtceflmoiiiclcaaDoorW.PrintWords Go.Proofs.YtceflmoiiiclcaaDoorW.PrintLast Go.Proofs.YtceflmoiiiclcaaDoorW.PrintMore
set_option linter.unusedVariables false
set_option linter.unusedSimpArgs false

theorem file1 (W : World) (b : Nat) (t nm : ByteArray) (A : Option Addr) (n c : Nat) (hb : W.cell? ⟨b, 0, none⟩ = some (.string t)) (hlt : b < W.heap.size) :
    Calls Tryd.prog 44 #[.agg #[.string nm, .slice A n c], .pointer (some ⟨b, 0, none⟩)] W fun e w' => e = .returned (.bool (nm.toList == t.toList)) ∧ w' = W.alloc (.cells #[.string nm, .slice A n c] 54) := by
  have hb2 : (W.alloc (.cells #[.string nm, .slice A n c] 54)).cell? ⟨b, 0, none⟩ = some (.string t) := ((below_alloc (Below.refl W.heap.size W) _).cell (p := ⟨b, 0, none⟩) hlt).trans hb
  go_enter Tryd.func44, Tryd.ntmps44
  go_wp2
  go_ret
  exact ⟨rfl, rfl⟩

theorem box_cell (w : World) (v : Value) (e : TypeId) : (w.alloc (.cells #[v] e)).cell? ⟨w.heap.size, 0, none⟩ = some v ∧ w.heap.size < (w.alloc (.cells #[v] e)).heap.size := by
  have h : (w.alloc (.cells #[v] e)).heap[w.heap.size]? = some (.cells #[v] e) := by
    show (w.heap.push _)[w.heap.size]? = _
    simp
  refine ⟨?_, (Array.getElem?_eq_some_iff.1 h).1⟩
  unfold World.cell?
  rw [h]
  rfl
def findAt (t : ByteArray) : List PX.S54 → Nat → Int
  | [], _ => -1
  | x :: r, i => if (x.f0.toList == t.toList) = true then (i : Int) else findAt t r (i + 1)
theorem find_lt (t : ByteArray) : ∀ (l : List PX.S54) (j : Nat), ¬ findAt t l j < 0 → (j : Int) ≤ findAt t l j ∧ findAt t l j < ((j + l.length : Nat) : Int)
  | [], j, h => by unfold findAt at h; omega
  | x :: r, j, h => by
    unfold findAt at h ⊢
    simp only [List.length_cons]
    by_cases q : (x.f0.toList == t.toList) = true
    · rw [if_pos q]; omega
    · rw [if_neg q] at h ⊢
      have := find_lt t r (j + 1) h
      omega
theorem drop_T54 (l : List PX.S54) (j : Nat) (h : j < l.length) : l.drop j = PX.rd_T54 l (j : Int) :: l.drop (j + 1) := by
  rw [List.drop_eq_getElem_cons h]
  unfold PX.rd_T54
  simp [List.getElem?_eq_getElem h]

set_option maxHeartbeats 1000000 in
set_option maxRecDepth 100000 in
theorem index_calls (w : World) (b : Nat) (t : ByteArray) (A : Option Addr) (c : Nat) (l : List PX.S54) (hC : Kd.C PX.k54 w A l.length l) (hb : w.cell? ⟨b, 0, none⟩ = some (.string t)) (hlt : b < w.heap.size) (hl : l.length < 35184372088832) :
    Calls Tryd.prog 43 #[.slice A l.length c, .func (.func 44) #[] #[.pointer (some ⟨b, 0, none⟩)]] w fun e w' => e = .returned (.int .i64 (findAt t l 0)) ∧ Below w.heap.size w w' := by
  have HC := Aside0.mk hC
  have HL := Aside0.mk hl
  have HBB := Aside0.mk (fun (W : World) (h : Below w.heap.size w W) => (h.cell (p := ⟨b, 0, none⟩) hlt).trans hb)
  have HLT := Aside0.mk hlt
  obtain ⟨fr, hfr⟩ : ∃ fr, fr = findAt t l 0 := ⟨_, rfl⟩
  rw [← hfr]
  have HFR := Aside0.mk hfr
  clear hC hl hb hlt hfr
  go_enter Tryd.func43, Tryd.ntmps43
  go_wp2
  go_loopg [8] (l.length + 1) (fun kq v8 wr => ∃ (j : Nat), v8 = .int .i64 j ∧ Aside0 (kq + j = l.length + 1) ∧ Aside0 (fr = findAt t (l.drop j) j) ∧ Aside0 (Below w.heap.size w wr))
  case atStart => exact ⟨0, rfl, ⟨by omega⟩, ⟨HFR.out⟩, ⟨Below.refl _ _⟩⟩
  case round =>
    obtain ⟨j, rfl, HK, HF, HB⟩ := hrel
    by_cases hlt : j < l.length
    · obtain ⟨k1, rfl⟩ : ∃ m, gk = m + 1 := ⟨gk - 1, by have := HK.out; omega⟩
      obtain ⟨ad, A1, c1, rfl, x0, x1, _, _⟩ := PX.at_T54 (Kd.C_below HC.out HB.out) (j : Int) (by omega) (by omega)
      have t2 : ((j : Int)).toNat = j := by omega
      rw [t2] at x0 x1
      clear t2
      have t1 : decide ((j : Int) < (l.length : Int)) = true := decide_eq_true (by omega)
      have p1 : (0 : Int) ≤ (j : Int) := by omega
      have p2 : (j : Int) < (l.length : Int) := by omega
      have hbb := HBB.out _ HB.out
      have HF2 := HF.out
      rw [drop_T54 l j hlt] at HF2
      unfold findAt at HF2
      generalize PX.rd_T54 l (j : Int) = X at x0 x1 HF2
      have HF3 := Aside0.mk HF2
      have HLT2 := Aside0.mk hlt
      clear HF2 hlt
      go_wp2_with (go_at_call 44; refine (file1 _ b t X.f0 A1 _ c1 hbb (Nat.lt_of_lt_of_le HLT.out HB.out.size)).mono ?_; rintro e w1 ⟨rfl, rfl⟩)
      · rename_i hq
        have HF4 := HF3.out
        rw [if_pos hq] at HF4
        subst HF4
        go_ret
        exact ⟨rfl, below_alloc HB.out _⟩
      · rename_i hq
        have HF4 := HF3.out
        rw [if_neg (by rw [hq]; decide)] at HF4
        have HF5 := Aside0.mk HF4
        clear HF4
        go_roundg k1
        case measure => omega
        case rel => exact ⟨j + 1, (by have h1 := HL.out; have h2 := HLT2.out; congr 1; unfold wrap64; omega), ⟨by have := HK.out; omega⟩, HF5, ⟨below_alloc HB.out _⟩⟩
    · have t1 : decide ((j : Int) < (l.length : Int)) = false := decide_eq_false (by omega)
      have HF2 := HF.out
      rw [List.drop_eq_nil_of_le (by omega)] at HF2
      unfold findAt at HF2
      subst HF2
      go_wp2
      go_ret
      exact ⟨rfl, HB.out⟩

set_option maxHeartbeats 2000000 in
set_option maxRecDepth 100000 in
theorem file_yes (w : World) (g : Nat) (s : St) (fr : Value) (frs : List ByteArray) (t tr : ByteArray) (A : Option Addr) (c : Nat) (l : List PX.S54) (i : Int) (dat : List Int) (hr : RdAt w g s (.slice A l.length c) fr) (hR : Kd.R Kd.string 9 w (g + 1) (fun _ => True) fr frs) (hC : Kd.C PX.k54 w A l.length l)
    (hl : l.length < 35184372088832) (hn : frs.length < 1000000) (hi : findAt t l 0 = i) (h0 : ¬ i < 0) (hd : (PX.rd_T54 l i).f1 = dat) (htr : PS.strings_TrimSuffix.f (strOfNums dat) ⟨#[10]⟩ = some tr) :
    Calls Tryd.prog 36 #[.pointer (some ⟨g, 0, none⟩), .string t] w (WEnd w g fr s (.slice A l.length c) (frs ++ [tr]) 0) := by
  have hb := find_lt t l 0 (by rw [hi]; exact h0)
  rw [hi] at hb
  obtain ⟨A2, c2, rfl⟩ := Kd.R_slice hR
  obtain ⟨ad, A1, c1, rfl, x0, x1, hc1, hdc⟩ := PX.at_T54 hC i hb.1 (by omega)
  rw [hd] at x1 hc1 hdc
  have HR := Aside0.mk hR
  have HTR := Aside0.mk htr
  have HLT := Aside0.mk (show g + 1 ≤ w.heap.size from hr.lt)
  have HLN := Aside0.mk (show (frs.length + 1) * 16 ≤ 140737488355328 by omega)
  have FF := Aside0.mk (fun (W' : World) (hB : Below w.heap.size w W') => (show W'.cell? ⟨g, 9, none⟩ = some (.slice A2 frs.length c2) ∧ W'.cell? ⟨g, 8, none⟩ = some (.slice (some ad) l.length c) ∧ W'.cell? ⟨(ad.add (i.toNat * 2)).block, (ad.add (i.toNat * 2)).off + 1, none⟩ = some (.slice A1 dat.length c1) ∧ (convert 29 9 (.slice A1 dat.length c1)).run Tryd.prog W' = .ok (.string (strOfNums dat)) W' from
    ⟨(hr.below hB).c9, (hr.below hB).c8, (hB.cell (World.block_lt_of_cell? w _ x1)).trans x1, Kd.C_string (P := Tryd.prog) (A := A1) (c := c1) Tryd.underlying29 Tryd.underlying5 Tryd.underlying9 (Kd.C_below hdc hB)⟩))
  have key := fun (W : World) (b : Nat) (h1 : W.cell? ⟨b, 0, none⟩ = some (.string t)) (h2 : b < W.heap.size) (h3 : Below w.heap.size w W) => index_calls W b t (some ad) c l (Kd.C_below hC h3) h1 h2 hl
  rw [hi] at key
  have KEY := Aside0.mk key
  have c8 : (w.alloc (.cells #[.string t] 9)).cell? ⟨g, 8, none⟩ = some (.slice (some ad) l.length c) := (FF.out _ (below_alloc (Below.refl _ _) _)).2.1
  have q0 : (0 : Int) ≤ i := by omega
  have q1 : i < (l.length : Int) := by omega
  have t1 : decide (i < 0) = false := decide_eq_false h0
  clear key hR hC hl hn htr hb x0 x1 hc1 hdc hd
  go_enter Tryd.func36, Tryd.ntmps36
  go_wp2_with (go_at_call 43; refine (KEY.out _ w.heap.size (box_cell w _ _).1 (box_cell w _ _).2 (below_alloc (Below.refl _ _) _)).mono ?_; rintro e W1 ⟨rfl, hB⟩; have HB := Aside0.mk (below_step (below_alloc (Below.refl w.heap.size w) _) hB); clear hB)
  refine start_ (n := 20) (S := fun w' => w'.cell? ⟨g, 9, none⟩ = some (.slice A2 frs.length c2) ∧ w'.cell? ⟨g, 8, none⟩ = some (.slice (some ad) l.length c) ∧ w'.cell? ⟨(ad.add (i.toNat * 2)).block, (ad.add (i.toNat * 2)).off + 1, none⟩ = some (.slice A1 dat.length c1) ∧ (convert 29 9 (.slice A1 dat.length c1)).run Tryd.prog w' = .ok (.string (strOfNums dat)) w') (ds := [16, 19]) #[false, false, false, false, false, false, false, false, false, false, false, false, false, false, false, false, false, false, false, false] (by kernel_rfl) rfl rfl (FF.out _ (below_drew1 HB.out)) (fun hHeld => ?_)
  refine pure_ (i := 0) (N := some 14) (v := ?_) (a' := ?_) #[true, false, false, false, false, false, false, false, false, false, false, false, false, false, false, false, false, false, false, false] rfl rfl (by kernel_rfl) (fun _ _ _ h => h) (Or.inl ⟨by rfl, ?_⟩) ?_ ?_
  rotate_left
  · intro w'
    go_simp
    try with_reducible rfl
  rotate_left
  · simp only [Act.put, List.setIfInBounds_toArray, List.set_cons_zero, List.set_cons_succ]
    rfl
  refine pure_ (i := 1) (N := some 15) (v := ?_) (a' := ?_) #[true, true, false, false, false, false, false, false, false, false, false, false, false, false, false, false, false, false, false, false] rfl rfl (by kernel_rfl) (fun _ _ _ h => h) (Or.inl ⟨by rfl, ?_⟩) ?_ ?_
  rotate_left
  · intro w'
    go_simp
    try with_reducible rfl
  rotate_left
  · simp only [Act.put, List.setIfInBounds_toArray, List.set_cons_zero, List.set_cons_succ]
    rfl
  refine pure_ (i := 2) (N := some 16) (v := ?_) (a' := ?_) #[true, true, true, false, false, false, false, false, false, false, false, false, false, false, false, false, false, false, false, false] rfl rfl (by kernel_rfl) (fun _ _ _ h => h) (Or.inl ⟨by rfl, ?_⟩) ?_ ?_
  rotate_left
  · intro w'
    go_simp
    try with_reducible rfl
  rotate_left
  · simp only [Act.put, List.setIfInBounds_toArray, List.set_cons_zero, List.set_cons_succ]
    rfl
  refine pure_ (i := 3) (N := some 17) (v := ?_) (a' := ?_) #[true, true, true, true, false, false, false, false, false, false, false, false, false, false, false, false, false, false, false, false] rfl rfl (by kernel_rfl) (fun _ _ _ h => h) (Or.inl ⟨by rfl, ?_⟩) ?_ ?_
  rotate_left
  · intro w'
    go_simp
    try with_reducible rfl
  rotate_left
  · simp only [Act.put, List.setIfInBounds_toArray, List.set_cons_zero, List.set_cons_succ]
    rfl
  refine take_ (i := 4) (N := some 18) (v := ?_) (a' := ?_) #[true, true, true, true, true, false, false, false, false, false, false, false, false, false, false, false, false, false, false, false] rfl rfl (by kernel_rfl) (fun _ _ _ h => h) (Or.inl ⟨by rfl, ?_⟩) hHeld ?_ ?_
  rotate_left
  · rintro w' ⟨s0, s1, s2, s3⟩
    go_simp
    try with_reducible rfl
  rotate_left
  · simp only [Act.put, List.setIfInBounds_toArray, List.set_cons_zero, List.set_cons_succ]
    rfl
  refine pure_ (i := 5) (N := some 19) (v := ?_) (a' := ?_) #[true, true, true, true, true, true, false, false, false, false, false, false, false, false, false, false, false, false, false, false] rfl rfl (by kernel_rfl) (fun _ _ _ h => h) (Or.inl ⟨by rfl, ?_⟩) ?_ ?_
  rotate_left
  · intro w'
    go_simp
    try with_reducible rfl
  rotate_left
  · simp only [Act.put, List.setIfInBounds_toArray, List.set_cons_zero, List.set_cons_succ]
    rfl
  refine pure_ (i := 6) (N := some 20) (v := ?_) (a' := ?_) #[true, true, true, true, true, true, true, false, false, false, false, false, false, false, false, false, false, false, false, false] rfl rfl (by kernel_rfl) (fun _ _ _ h => h) (Or.inl ⟨by rfl, ?_⟩) ?_ ?_
  rotate_left
  · intro w'
    go_simp
    try with_reducible rfl
  rotate_left
  · simp only [Act.put, List.setIfInBounds_toArray, List.set_cons_zero, List.set_cons_succ]
    rfl
  refine pure_ (i := 7) (N := some 21) (v := ?_) (a' := ?_) #[true, true, true, true, true, true, true, true, false, false, false, false, false, false, false, false, false, false, false, false] rfl rfl (by kernel_rfl) (fun _ _ _ h => h) (Or.inl ⟨by rfl, ?_⟩) ?_ ?_
  rotate_left
  · intro w'
    go_simp
    try with_reducible rfl
  rotate_left
  · simp only [Act.put, List.setIfInBounds_toArray, List.set_cons_zero, List.set_cons_succ]
    rfl
  refine take_ (i := 8) (N := some 22) (v := ?_) (a' := ?_) #[true, true, true, true, true, true, true, true, true, false, false, false, false, false, false, false, false, false, false, false] rfl rfl (by kernel_rfl) (fun _ _ _ h => h) (Or.inl ⟨by rfl, ?_⟩) hHeld ?_ ?_
  rotate_left
  · rintro w' ⟨s0, s1, s2, s3⟩
    go_simp
    try with_reducible rfl
  rotate_left
  · simp only [Act.put, List.setIfInBounds_toArray, List.set_cons_zero, List.set_cons_succ]
    rfl
  refine pure_ (i := 9) (N := some 23) (v := ?_) (a' := ?_) #[true, true, true, true, true, true, true, true, true, true, false, false, false, false, false, false, false, false, false, false] rfl rfl (by kernel_rfl) (fun _ _ _ h => h) (Or.inl ⟨by rfl, ?_⟩) ?_ ?_
  rotate_left
  · intro w'
    go_simp
    try with_reducible rfl
  rotate_left
  · simp only [Act.put, List.setIfInBounds_toArray, List.set_cons_zero, List.set_cons_succ]
    rfl
  refine pure_ (i := 10) (N := some 24) (v := ?_) (a' := ?_) #[true, true, true, true, true, true, true, true, true, true, true, false, false, false, false, false, false, false, false, false] rfl rfl (by kernel_rfl) (fun _ _ _ h => h) (Or.inl ⟨by rfl, ?_⟩) ?_ ?_
  rotate_left
  · intro w'
    go_simp
    try with_reducible rfl
  rotate_left
  · simp only [Act.put, List.setIfInBounds_toArray, List.set_cons_zero, List.set_cons_succ]
    rfl
  refine pure_ (i := 11) (N := some 25) (v := ?_) (a' := ?_) #[true, true, true, true, true, true, true, true, true, true, true, true, false, false, false, false, false, false, false, false] rfl rfl (by kernel_rfl) (fun _ _ _ h => h) (Or.inl ⟨by rfl, ?_⟩) ?_ ?_
  rotate_left
  · intro w'
    go_simp
    try with_reducible rfl
  rotate_left
  · simp only [Act.put, List.setIfInBounds_toArray, List.set_cons_zero, List.set_cons_succ]
    rfl
  refine take_ (i := 12) (N := some 26) (v := ?_) (a' := ?_) #[true, true, true, true, true, true, true, true, true, true, true, true, true, false, false, false, false, false, false, false] rfl rfl (by kernel_rfl) (fun _ _ _ h => h) (Or.inl ⟨by rfl, ?_⟩) hHeld ?_ ?_
  rotate_left
  · rintro w' ⟨s0, s1, s2, s3⟩
    go_simp
    try with_reducible rfl
  rotate_left
  · simp only [Act.put, List.setIfInBounds_toArray, List.set_cons_zero, List.set_cons_succ]
    rfl
  refine take_ (i := 13) (N := some 27) (v := ?_) (a' := ?_) #[true, true, true, true, true, true, true, true, true, true, true, true, true, true, false, false, false, false, false, false] rfl rfl (by kernel_rfl) (fun _ _ _ h => h) (Or.inl ⟨by rfl, ?_⟩) hHeld ?_ ?_
  rotate_left
  · rintro w' ⟨s0, s1, s2, s3⟩
    go_simp
    try with_reducible rfl
  rotate_left
  · simp only [Act.put, List.setIfInBounds_toArray, List.set_cons_zero, List.set_cons_succ]
    rfl
  refine one_ (i := 14) (N := some 28) #[true, true, true, true, true, true, true, true, true, true, true, true, true, true, true, false, false, false, false, false] rfl rfl (by kernel_rfl) (by decide) (fun K hK => ?_)
  refine goes_ Tryd.func45 (by kernel_rfl) rfl #[.string (strOfNums dat), .string ⟨#[10]⟩] (by rfl) rfl rfl (by simp only [List.map_toArray, List.map_cons, List.map_nil]; rfl) ?_
  refine (PS.strings_TrimSuffix.calls _ _ tr _ HTR.out).mono ?_
  rintro e w' ⟨rfl, ⟨nd, rfl⟩⟩
  refine ⟨_, rfl, ?_⟩
  refine hK.out _ _ (FF.out _ (pw_below_drewN (below_drew1 HB.out) nd)) (fun hHeld => ?_)
  clear hK K
  refine norm_ (a' := ?_) ?_ ?_
  rotate_left
  · show Act.put _ (some 28) _ = _
    simp only [Act.put, List.setIfInBounds_toArray, List.set_cons_zero, List.set_cons_succ]
    rfl
  refine one_ (i := 15) (N := some 29) #[true, true, true, true, true, true, true, true, true, true, true, true, true, true, true, true, false, false, false, false] rfl rfl (by kernel_rfl) (by decide) (fun K hK => ?_)
  refine value_ (w1 := (W1.drew.drewN nd).alloc (.cells #[.string tr] 9)) (v := .slice (some ⟨(W1.drew.drewN nd).heap.size, 0, none⟩) 1 1) (by rfl) rfl (by go_simp) ?_
  refine hK.out _ _ (FF.out _ (below_alloc (pw_below_drewN (below_drew1 HB.out) nd) _)) (fun hHeld => ?_)
  clear hK K
  refine norm_ (a' := ?_) ?_ ?_
  rotate_left
  · show Act.put _ (some 29) _ = _
    simp only [Act.put, List.setIfInBounds_toArray, List.set_cons_zero, List.set_cons_succ]
    rfl
  refine last_ (i := 16) (N := some 30) #[true, true, true, true, true, true, true, true, true, true, true, true, true, true, true, true, true, false, false, false] rfl rfl (by kernel_rfl) (by decide) (fun K hK => ?_)
  refine Kd.R_append_step Kd.string (w0 := w) (W := W1.drew.drewN nd) (g + 1) (by rfl) (.tmp 18) (.tmp 29) 22 9 (.string ⟨#[]⟩) 16 rfl Tryd.underlying22 PX.info9 rfl (by decide) (by decide) (.slice A2 frs.length c2) frs tr [.string tr] (fun _ => True) (fun _ => False) rfl rfl rfl (fun _ hk => hk.elim) (fun _ _ => trivial) (Kd.R_below HR.out (pw_below_drewN (below_drew1 HB.out) nd)) (Below.mono (pw_below_drewN (below_drew1 HB.out) nd) HLT.out) (Nat.le_trans HLT.out HB.out.size) HLN.out ?_
  intro v1 w1 ho hb1 hg1 hat1
  obtain ⟨A3, c3, rfl⟩ := Kd.R_slice ho
  rw [show (frs ++ [tr]).length = frs.length + 1 from by simp] at ho hat1 ⊢
  have hd1 := hr.of (hb1.block g (Nat.lt_succ_self g))
  refine hK.out _ _ ?_
  clear hK K
  refine pure_ (i := 17) (N := some 31) (v := ?_) (a' := ?_) #[true, true, true, true, true, true, true, true, true, true, true, true, true, true, true, true, true, true, false, false] rfl rfl (by kernel_rfl) (fun _ _ _ h => h) (Or.inl ⟨by rfl, ?_⟩) ?_ ?_
  rotate_left
  · intro w'
    go_simp
    try with_reducible rfl
  rotate_left
  · simp only [Act.put, List.setIfInBounds_toArray, List.set_cons_zero, List.set_cons_succ]
    rfl
  refine pure_ (i := 18) (N := some 32) (v := ?_) (a' := ?_) #[true, true, true, true, true, true, true, true, true, true, true, true, true, true, true, true, true, true, true, false] rfl rfl (by kernel_rfl) (fun _ _ _ h => h) (Or.inl ⟨by rfl, ?_⟩) ?_ ?_
  rotate_left
  · intro w'
    go_simp
    try with_reducible rfl
  rotate_left
  · simp only [Act.put, List.setIfInBounds_toArray, List.set_cons_zero, List.set_cons_succ]
    rfl
  refine last_ (i := 19) (N := none) #[true, true, true, true, true, true, true, true, true, true, true, true, true, true, true, true, true, true, true, true] rfl rfl (by kernel_rfl) (by decide) (fun K hK => ?_)
  have f9 := hd1.f 9
  have c9 := hd1.c9
  refine skip_ (w1 := w1.setCell ⟨g, 9, none⟩ (.slice A3 (frs.length + 1) c3)) (by rfl) rfl (by first | (go_simp; done) | (go_simp; rfl)) ?_
  refine hK.out _ _ ?_
  clear hK K
  refine done_ (by kernel_rfl) ?_
  go_wp2
  go_ret
  exact ⟨rfl, _, hd1.set9 _, R_at_set (Kd.R_mono ho (fun _ _ => trivial)) _, (hb1.mono (Nat.le_succ g)).setCell (Nat.le_refl g) _, Keep.set (fun k h1 _ h3 => (hg1.block k (Nat.lt_of_lt_of_le h1 HB.out.size) h3).trans (HB.out.block k h1)), hat1.imp id (fun ⟨b2, e1, e2⟩ => ⟨b2, e1, Nat.le_trans HB.out.size e2⟩)⟩
set_option maxHeartbeats 2000000 in
set_option maxRecDepth 100000 in
theorem file_no (w : World) (g : Nat) (s : St) (fr : Value) (frs : List ByteArray) (t : ByteArray) (A : Option Addr) (c : Nat) (l : List PX.S54) (hr : RdAt w g s (.slice A l.length c) fr) (hR : Kd.R Kd.string 9 w (g + 1) (fun _ => True) fr frs) (hC : Kd.C PX.k54 w A l.length l)
    (hl : l.length < 35184372088832) (h0 : findAt t l 0 < 0) :
    Calls Tryd.prog 36 #[.pointer (some ⟨g, 0, none⟩), .string t] w (WEnd w g fr s (.slice A l.length c) frs 61) := by
  have END := Aside0.mk (fun (W' : World) (hB : Below w.heap.size w W') => (show WEnd w g fr s (.slice A l.length c) frs 61 (.returned (.int .u16 61)) W' from ⟨rfl, fr, hr.below hB, Kd.R_below hR hB, hB.mono (Nat.le_of_lt hr.lt), Keep.of_below hB, .inl rfl⟩))
  have key := fun (W : World) (b : Nat) (h1 : W.cell? ⟨b, 0, none⟩ = some (.string t)) (h2 : b < W.heap.size) (h3 : Below w.heap.size w W) => index_calls W b t A c l (Kd.C_below hC h3) h1 h2 hl
  obtain ⟨i, hi⟩ : ∃ i, i = findAt t l 0 := ⟨_, rfl⟩
  rw [← hi] at key h0
  have KEY := Aside0.mk key
  have c8 : (w.alloc (.cells #[.string t] 9)).cell? ⟨g, 8, none⟩ = some (.slice A l.length c) := (hr.below (below_alloc (Below.refl _ _) _)).c8
  have t1 : decide (i < 0) = true := decide_eq_true h0
  clear key hR hC hl hi h0 hr
  go_enter Tryd.func36, Tryd.ntmps36
  go_wp2_with (go_at_call 43; refine (KEY.out _ w.heap.size (box_cell w _ _).1 (box_cell w _ _).2 (below_alloc (Below.refl _ _) _)).mono ?_; rintro e W1 ⟨rfl, hB⟩; have HB := Aside0.mk (below_step (below_alloc (Below.refl w.heap.size w) _) hB); clear hB)
  go_ret
  exact END.out _ HB.out

/-- What a word does. -/
def wordF (l : List PX.S54) (k : Int) (t : ByteArray) (s : St) (frs : List ByteArray) : Option (St × List ByteArray × Int) :=
  if k = 101 then some (s, frs ++ [t], 0)
  else if k = 102 then (if findAt t l 0 < 0 then some (s, frs, 61) else (PS.strings_TrimSuffix.f (strOfNums (PX.rd_T54 l (findAt t l 0)).f1) ⟨#[10]⟩).map fun tr => (s, frs ++ [tr], 0))
  else if k = 99 then some ({ s with en := PX.named t }, frs, if PX.named t = 0 then 31 else 0)
  else if k = 76 then some ({ s with lo := t }, frs, 0)
  else none
/-- A word's function, by its value. -/
def wordV (b g : Nat) (k : Int) : Nat × Array Value × Array Value :=
  if k = 101 then (35, #[], #[.pointer (some ⟨b, 0, none⟩)]) else if k = 102 then (36, #[.pointer (some ⟨g, 0, none⟩)], #[]) else if k = 99 then (37, #[], #[.pointer (some ⟨b, 0, none⟩)]) else (39, #[], #[.pointer (some ⟨b, 0, none⟩)])
theorem word_calls (W : World) (b g : Nat) (k : Int) (hk : k = 101 ∨ k = 102 ∨ k = 99 ∨ k = 76) (hne : b ≠ g) (s s' : St) (fr : Value) (frs frs' : List ByteArray) (er : Int) (t : ByteArray) (A : Option Addr) (c : Nat) (l : List PX.S54) (hb : PtrAt W b g) (hr : RdAt W g s (.slice A l.length c) fr)
    (hR : Kd.R Kd.string 9 W (g + 1) (fun k => k ≠ b) fr frs) (hC : Kd.C PX.k54 W A l.length l) (hl : l.length < 35184372088832) (hn : frs.length < 1000000) (h : wordF l k t s frs = some (s', frs', er)) :
    Calls Tryd.prog (wordV b g k).1 ((wordV b g k).2.1 ++ #[.string t] ++ (wordV b g k).2.2) W (WEnd W g fr s' (.slice A l.length c) frs' er) := by
  have hR' := Kd.R_mono hR (ok' := fun _ => True) (fun _ _ => trivial)
  unfold wordF at h
  unfold wordV
  by_cases h1 : k = 101
  · rw [if_pos h1] at h ⊢
    cases h
    exact word35 W b g hne s _ fr frs t hb hr hR hn
  rw [if_neg h1] at h ⊢
  by_cases h2 : k = 102
  · rw [if_pos h2] at h ⊢
    by_cases hf : findAt t l 0 < 0
    · rw [if_pos hf] at h
      cases h
      exact file_no W g s fr frs t A c l hr hR' hC hl hf
    · rw [if_neg hf] at h
      obtain ⟨tr, htr, he⟩ := Option.map_eq_some_iff.1 h
      cases he
      exact file_yes W g s fr frs t tr A c l _ _ hr hR' hC hl hn rfl hf rfl htr
  rw [if_neg h2] at h ⊢
  by_cases h3 : k = 99
  · rw [if_pos h3] at h ⊢
    cases h
    exact word37 W b g hne s _ fr frs t hb hr hR'
  rw [if_neg h3] at h ⊢
  by_cases h4 : k = 76
  · rw [if_pos h4] at h
    cases h
    exact word39 W b g s _ fr frs t hb hr hR'
  · omega
#print axioms word_calls
end Go.Proofs.YtceflmoiiiclcaaDoor.EC
