/- opts: letters of one argument: what they set, and how many arguments they take. Conditions: the reader is in block g, its fragments are a row of its own behind it, arguments and files stand in memory ahead of it. -/
import Derived.Test.YtceflmoiiiclcaaDoorExtFile
namespace Go.Proofs.YtceflmoiiiclcaaDoor.EC
open Go.RowKit Go.Proofs.YtceflmoiiiclcaaDoorW.PrintWords Go.Proofs.YtceflmoiiiclcaaDoorW.PrintLast Go.Proofs.YtceflmoiiiclcaaDoorW.PrintMore
set_option linter.unusedVariables false
set_option linter.unusedSimpArgs false

/-- Letters from place k on. -/
def letF (l : List PX.S54) (z : ByteArray) (next : Option ByteArray) : Nat → Nat → St → List ByteArray → Option (St × List ByteArray × Int × Int)
  | 0, _, _, _ => none
  | d + 1, k, s, frs => if k < z.size then (
      if bt z k = 110 then letF l z next d (k + 1) { s with q := true } frs
      else if bt z k = 69 then letF l z next d (k + 1) { s with x := true } frs
      else if bt z k = 115 then letF l z next d (k + 1) { s with a := true } frs
      else if bt z k = 105 then letF l z next d (k + 1) { s with a := true, i := true } frs
      else if bt z k = 101 ∨ bt z k = 102 ∨ bt z k = 99 ∨ bt z k = 76 then (
        if k + 1 < z.size then (wordF l (bt z k) (z.extract (k + 1) z.size) s frs).map fun r => (r.1, r.2.1, 1, r.2.2)
        else match next with
          | none => some (s, frs, 0, 70)
          | some t => (wordF l (bt z k) t s frs).map fun r => (r.1, r.2.1, 2, r.2.2))
      else some (s, frs, 0, 70))
    else some (s, frs, 1, 0)
/-- How letters end. -/
def LEnd (W : World) (g : Nat) (fr : Value) (s' : St) (fv : Value) (frs' : List ByteArray) (n er : Int) (e : Ending) (w' : World) : Prop :=
  e = .returned (.tuple #[.int .i64 n, .int .u16 er]) ∧ ∃ fr', RdAt w' g s' fv fr' ∧ Kd.R Kd.string 9 w' (g + 1) (fun _ => True) fr' frs' ∧ Below g W w' ∧ Keep W w' g fr ∧ Own W fr fr'
theorem box_map (W : World) (g : Nat) (es : Array MapEntry) (c : Nat) : PtrAt ((W.alloc (.cells #[.pointer (some ⟨g, 0, none⟩)] 47)).alloc (.map es c)) W.heap.size g ∧ ((W.alloc (.cells #[.pointer (some ⟨g, 0, none⟩)] 47)).alloc (.map es c)).heap[W.heap.size + 1]? = some (.map es c) ∧ Below W.heap.size W ((W.alloc (.cells #[.pointer (some ⟨g, 0, none⟩)] 47)).alloc (.map es c)) := by
  have s1 : (W.alloc (.cells #[.pointer (some ⟨g, 0, none⟩)] 47)).heap.size = W.heap.size + 1 := Array.size_push _
  have at_ : ∀ (W : World) (o : Obj), (W.alloc o).heap[W.heap.size]? = some o := fun W o => by show (W.heap.push o)[W.heap.size]? = _; simp
  refine ⟨?_, ?_, below_alloc (below_alloc (Below.refl _ _) _) _⟩
  · unfold PtrAt
    rw [Below.heap_alloc _ _ _ (by omega)]
    exact at_ _ _
  · rw [← s1]
    exact at_ _ _

set_option maxHeartbeats 16000000 in
set_option maxRecDepth 100000 in
theorem letters_calls (w : World) (g : Nat) (s s' : St) (fr : Value) (frs frs' : List ByteArray) (d : Nat) (n er : Int) (z : ByteArray) (rest : List ByteArray) (B : Option Addr) (cB : Nat) (A : Option Addr) (c : Nat) (l : List PX.S54) (hr : RdAt w g s (.slice A l.length c) fr)
    (hR : Kd.R Kd.string 9 w (g + 1) (fun _ => True) fr frs) (hA : ∀ W', Below g w W' → Kd.C PX.k54 W' A l.length l) (hB : ∀ W', Below g w W' → Kd.C Kd.string W' B (z :: rest).length (z :: rest)) (hl : l.length < 35184372088832) (hn : frs.length < 1000000) (hrest : rest.length < 1000000) (hz : z.size < 4611686018427387904)
    (h : letF l z rest.head? d 1 s frs = some (s', frs', n, er)) :
    Calls Tryd.prog 21 #[.pointer (some ⟨g, 0, none⟩), .slice B (z :: rest).length cB] w (LEnd w g fr s' (.slice A l.length c) frs' n er) := by
  have HA := Aside0.mk hA
  have HZ := Aside0.mk hB
  have HN := Aside0.mk hn
  have HL := Aside0.mk hl
  have HRS := Aside0.mk hrest
  have HSZ := Aside0.mk hz
  have HR := Aside0.mk hR
  have HD := Aside0.mk hr
  have HH := Aside0.mk h
  obtain ⟨bd, rfl, hx⟩ : ∃ bd, B = some bd ∧ w.cell? bd = some (.string z) := by
    obtain ⟨ad, cc, e, hcl, hk, hc⟩ := Kd.C_get (hB w (Below.refl _ _)) ByteArray.empty 0 (by decide) (by simp only [List.length_cons]; omega)
    have hk2 : cc = [.string z] := hk
    subst hk2
    have := hc 0 _ rfl
    exact ⟨ad, e, by simpa [Addr.add] using this⟩
  have XX : Aside0 (∀ W', Below g w W' → ∀ t r2, rest = t :: r2 → W'.cell? ⟨bd.block, bd.off + 1, none⟩ = some (.string t)) := ⟨fun W' hW t r2 he => by
    obtain ⟨ad, cc, e, hcl, hkk, hc⟩ := Kd.C_get (hB W' hW) ByteArray.empty 1 (by decide) (by rw [he]; simp only [List.length_cons]; omega)
    rw [he] at hkk
    have hk2 : cc = [.string t] := hkk
    subst hk2
    have := hc 0 _ rfl
    cases e
    exact this⟩
  have t0 : (0 : Int) < (((z :: rest).length : Nat) : Int) := by simp only [List.length_cons]; omega
  generalize hm : (z :: rest).length = m at *
  have HM := Aside0.mk hm
  clear hA hB hn hl hrest hz hR hr h hm
  go_enter Tryd.func21, Tryd.ntmps21
  go_wp2
  go_loopg [7] d (fun kq v7 wr => ∃ (k : Nat) (s1 : St) (frs1 : List ByteArray), v7 = .int .i64 k ∧ Aside0 (letF l z rest.head? kq k s1 frs1 = some (s', frs', n, er)) ∧ Aside0 (RdAt wr g s1 (.slice A l.length c) fr) ∧ Aside0 (Kd.R Kd.string 9 wr (g + 1) (fun _ => True) fr frs1) ∧ Aside0 (frs1.length < 1000000) ∧ Aside0 (Below g w wr) ∧ Aside0 (Keep w wr g fr))
  case atStart => exact ⟨1, s, frs, rfl, HH, HD, HR, HN, ⟨Below.refl _ _⟩, ⟨Keep.refl _ _ _⟩⟩
  case round =>
    obtain ⟨k, s1, frs1, rfl, HF, HD1, HR1, HN1, HB1, HKP1⟩ := hrel
    cases gk with
    | zero => exact absurd HF.out (by simp [letF])
    | succ k1 =>
      have H := HF.out
      clear HF
      unfold letF at H
      by_cases hk : k < z.size
      · rw [if_pos hk] at H
        have H' := Aside0.mk H
        clear H
        have t1 : decide ((k : Int) < (z.size : Int)) = true := decide_eq_true (by omega)
        have q0 : (0 : Int) ≤ (k : Int) := by omega
        have q1 : (k : Int) < (z.size : Int) := by omega
        have HBT : Aside0 ((((z[k]'hk).toNat : Nat) : Int) = bt z k) := ⟨bt_at z (k : Int) hk⟩
        go_wp2
        refine start_ (n := 11) (S := fun w' => True) (ds := []) #[false, false, false, false, false, false, false, false, false, false, false] (by kernel_rfl) rfl rfl (trivial) (fun hHeld => ?_)
        obtain ⟨W0, hW0⟩ : ∃ W0, W0 = wr.drew := ⟨_, rfl⟩
        rw [← hW0]
        have HW0 := Aside0.mk hW0
        clear hW0
        obtain ⟨W1, hW1⟩ : ∃ W1, W1 = (W0.alloc (.cells #[.pointer (some ⟨g, 0, none⟩)] 47)).alloc (.map (fent W0.heap.size) 4) := ⟨_, rfl⟩
        have BM := box_map W0 g (fent W0.heap.size) 4
        rw [← hW1] at BM
        obtain ⟨r, hr, hlk⟩ := flook W1 (W0.heap.size + 1) W0.heap.size BM.2.1 (bt z k)
        have HW1 := Aside0.mk hW1
        have HRR := Aside0.mk hr
        have HBM := Aside0.mk BM
        clear hW1 hr BM
        refine pure_ (i := 0) (N := some 22) (v := ?_) (a' := ?_) #[true, false, false, false, false, false, false, false, false, false, false] rfl rfl (by kernel_rfl) (fun _ _ _ h => h) (Or.inl ⟨by rfl, ?_⟩) ?_ ?_
        rotate_left
        · intro w'
          go_simp
          try with_reducible rfl
        rotate_left
        · simp only [Act.put, List.setIfInBounds_toArray, List.set_cons_zero, List.set_cons_succ]
          rfl
        refine pure_ (i := 2) (N := some 24) (v := ?_) (a' := ?_) #[true, false, true, false, false, false, false, false, false, false, false] rfl rfl (by kernel_rfl) (fun _ _ _ h => h) (Or.inl ⟨by rfl, ?_⟩) ?_ ?_
        rotate_left
        · intro w'
          go_simp
          try with_reducible rfl
        rotate_left
        · simp only [Act.put, List.setIfInBounds_toArray, List.set_cons_zero, List.set_cons_succ]
          rfl
        refine pure_ (i := 3) (N := some 25) (v := ?_) (a' := ?_) #[true, false, true, true, false, false, false, false, false, false, false] rfl rfl (by kernel_rfl) (fun _ _ _ h => h) (Or.inl ⟨by rfl, ?_⟩) ?_ ?_
        rotate_left
        · intro w'
          go_simp
          try with_reducible rfl
        rotate_left
        · simp only [Act.put, List.setIfInBounds_toArray, List.set_cons_zero, List.set_cons_succ]
          rfl
        refine pure_ (i := 4) (N := some 26) (v := ?_) (a' := ?_) #[true, false, true, true, true, false, false, false, false, false, false] rfl rfl (by kernel_rfl) (fun _ _ _ h => h) (Or.inl ⟨by rfl, ?_⟩) ?_ ?_
        rotate_left
        · intro w'
          go_simp
          try with_reducible rfl
        rotate_left
        · simp only [Act.put, List.setIfInBounds_toArray, List.set_cons_zero, List.set_cons_succ]
          rfl
        refine one_ (i := 1) (N := some 23) #[true, true, true, true, true, false, false, false, false, false, false] rfl rfl (by kernel_rfl) (by decide) (fun K hK => ?_)
        refine goes_ Tryd.func24 (by kernel_rfl) rfl #[.pointer (some ⟨g, 0, none⟩)] (by rfl) rfl rfl (by simp only [List.map_toArray, List.map_cons, List.map_nil]; rfl) ?_
        refine (flags_calls W0 g).mono ?_
        rintro e w' ⟨rfl, rfl⟩
        rw [← HW1.out]
        refine ⟨_, rfl, ?_⟩
        refine hK.out _ _ (trivial) (fun hHeld => ?_)
        clear hK K
        refine norm_ (a' := ?_) ?_ ?_
        rotate_left
        · show Act.put _ (some 23) _ = _
          simp only [Act.put, List.setIfInBounds_toArray, List.set_cons_zero, List.set_cons_succ]
          rfl
        refine one_ (i := 5) (N := some 27) #[true, true, true, true, true, true, false, false, false, false, false] rfl rfl (by kernel_rfl) (by decide) (fun K hK => ?_)
        refine value_ (w1 := W1) (v := .tuple #[(r.map (·.2)).getD .nilFunc, .bool r.isSome]) (by rfl) rfl (by go_simp; rw [HBT.out, hlk]; rfl) ?_
        refine hK.out _ _ (trivial) (fun hHeld => ?_)
        clear hK K
        refine norm_ (a' := ?_) ?_ ?_
        rotate_left
        · show Act.put _ (some 27) _ = _
          simp only [Act.put, List.setIfInBounds_toArray, List.set_cons_zero, List.set_cons_succ]
          rfl
        refine pure_ (i := 6) (N := some 21) (v := ?_) (a' := ?_) #[true, true, true, true, true, true, true, false, false, false, false] rfl rfl (by kernel_rfl) (fun _ _ _ h => h) (Or.inl ⟨by rfl, ?_⟩) ?_ ?_
        rotate_left
        · intro w'
          go_simp
          try with_reducible rfl
        rotate_left
        · simp only [Act.put, List.setIfInBounds_toArray, List.set_cons_zero, List.set_cons_succ]
          rfl
        refine pure_ (i := 7) (N := some 28) (v := ?_) (a' := ?_) #[true, true, true, true, true, true, true, true, false, false, false] rfl rfl (by kernel_rfl) (fun _ _ _ h => h) (Or.inl ⟨by rfl, ?_⟩) ?_ ?_
        rotate_left
        · intro w'
          go_simp
          try with_reducible rfl
        rotate_left
        · simp only [Act.put, List.setIfInBounds_toArray, List.set_cons_zero, List.set_cons_succ]
          rfl
        refine pure_ (i := 8) (N := some 29) (v := ?_) (a' := ?_) #[true, true, true, true, true, true, true, true, true, false, false] rfl rfl (by kernel_rfl) (fun _ _ _ h => h) (Or.inl ⟨by rfl, ?_⟩) ?_ ?_
        rotate_left
        · intro w'
          go_simp
          try with_reducible rfl
        rotate_left
        · simp only [Act.put, List.setIfInBounds_toArray, List.set_cons_zero, List.set_cons_succ]
          rfl
        refine pure_ (i := 9) (N := some 8) (v := ?_) (a' := ?_) #[true, true, true, true, true, true, true, true, true, true, false] rfl rfl (by kernel_rfl) (fun _ _ _ h => h) (Or.inl ⟨by rfl, ?_⟩) ?_ ?_
        rotate_left
        · intro w'
          go_simp
          try with_reducible rfl
        rotate_left
        · simp only [Act.put, List.setIfInBounds_toArray, List.set_cons_zero, List.set_cons_succ]
          rfl
        refine pure_ (i := 10) (N := some 9) (v := ?_) (a' := ?_) #[true, true, true, true, true, true, true, true, true, true, true] rfl rfl (by kernel_rfl) (fun _ _ _ h => h) (Or.inl ⟨by rfl, ?_⟩) ?_ ?_
        rotate_left
        · intro w'
          go_simp
          try with_reducible rfl
        rotate_left
        · simp only [Act.put, List.setIfInBounds_toArray, List.set_cons_zero, List.set_cons_succ]
          rfl
        refine done_ (by kernel_rfl) ?_
        have HBW : Aside0 (Below wr.heap.size wr W1) := ⟨by have h1 := HBM.out.2.2; rw [HW0.out] at h1; exact below_step (below_drew1 (Below.refl _ _)) h1⟩
        have HPT := Aside0.mk HBM.out.1
        have HD2 := Aside0.mk (HD1.out.below HBW.out)
        have HR2 := Aside0.mk (Kd.R_below HR1.out HBW.out)
        have HB2 := Aside0.mk (HB1.out.trans (HBW.out.mono (Nat.le_of_lt HD1.out.lt)))
        have HKP2 := Aside0.mk (HKP1.out.trans (Keep.of_below (g := g) (v := fr) HBW.out) HB1.out.size)
        have HNE : Aside0 (W0.heap.size ≠ g) := ⟨by have h1 := HD1.out.lt; rw [HW0.out]; exact Nat.ne_of_gt h1⟩
        have hwk : Aside0 (wrap64 ((k : Int) + 1) = ((k + 1 : Nat) : Int)) := ⟨by have h1 := HSZ.out; unfold wrap64; omega⟩
        have hr := HRR.out
        unfold at4 at hr
        have H := H'.out
        by_cases e110 : bt z k = 110
        · rw [if_pos e110] at hr H
          subst hr
          have H2 := Aside0.mk H
          clear H hlk
          go_wp2_with (go_at_call 31; refine (flag31 W1 W0.heap.size g s1 _ fr HPT.out HD2.out).mono ?_; rintro e w2 ⟨rfl, rfl⟩)
          go_roundg k1
          case measure => omega
          case rel => exact ⟨k + 1, { s1 with q := true }, frs1, (by rw [hwk.out]), H2, ⟨HD2.out.set0 true⟩, ⟨R_at_set HR2.out _⟩, HN1, ⟨HB2.out.setCell (Nat.le_refl g) _⟩, ⟨HKP2.out.set⟩⟩
        rw [if_neg e110] at hr H
        by_cases e69 : bt z k = 69
        · rw [if_pos e69] at hr H
          subst hr
          have H2 := Aside0.mk H
          clear H hlk
          go_wp2_with (go_at_call 32; refine (flag32 W1 W0.heap.size g s1 _ fr HPT.out HD2.out).mono ?_; rintro e w2 ⟨rfl, rfl⟩)
          go_roundg k1
          case measure => omega
          case rel => exact ⟨k + 1, { s1 with x := true }, frs1, (by rw [hwk.out]), H2, ⟨HD2.out.set1 true⟩, ⟨R_at_set HR2.out _⟩, HN1, ⟨HB2.out.setCell (Nat.le_refl g) _⟩, ⟨HKP2.out.set⟩⟩
        rw [if_neg e69] at hr H
        by_cases e115 : bt z k = 115
        · rw [if_pos e115] at hr H
          subst hr
          have H2 := Aside0.mk H
          clear H hlk
          go_wp2_with (go_at_call 33; refine (flag33 W1 W0.heap.size g s1 _ fr HPT.out HD2.out).mono ?_; rintro e w2 ⟨rfl, rfl⟩)
          go_roundg k1
          case measure => omega
          case rel => exact ⟨k + 1, { s1 with a := true }, frs1, (by rw [hwk.out]), H2, ⟨HD2.out.set2 true⟩, ⟨R_at_set HR2.out _⟩, HN1, ⟨HB2.out.setCell (Nat.le_refl g) _⟩, ⟨HKP2.out.set⟩⟩
        rw [if_neg e115] at hr H
        by_cases e105 : bt z k = 105
        · rw [if_pos e105] at hr H
          subst hr
          have H2 := Aside0.mk H
          clear H hlk
          go_wp2_with (go_at_call 34; refine (flag34 W1 W0.heap.size g s1 _ fr HNE.out HPT.out HD2.out).mono ?_; rintro e w2 ⟨rfl, hd2, i2, j2, rfl⟩)
          go_roundg k1
          case measure => omega
          case rel => exact ⟨k + 1, { s1 with a := true, i := true }, frs1, (by rw [hwk.out]), H2, ⟨hd2⟩, ⟨Kd.R_drew (R_at_set (R_at_set HR2.out _) _)⟩, HN1, ⟨((HB2.out.setCell (Nat.le_refl g) _).setCell (Nat.le_refl g) _).drew⟩, ⟨fun q q1 q2 q3 => HKP2.out.set.set q q1 q2 q3⟩⟩
        rw [if_neg e105] at hr H
        subst hr
        have H3 := Aside0.mk H
        clear H H' hlk
        go_wp2
        refine start_ (n := 11) (S := fun w' => True) (ds := []) #[false, false, false, false, false, false, false, false, false, false, false] (by kernel_rfl) rfl rfl (trivial) (fun hHeld => ?_)
        obtain ⟨W2, hW2⟩ : ∃ W2, W2 = W1.drew := ⟨_, rfl⟩
        rw [← hW2]
        have HW2 := Aside0.mk hW2
        clear hW2
        obtain ⟨W3, hW3⟩ : ∃ W3, W3 = (W2.alloc (.cells #[.pointer (some ⟨g, 0, none⟩)] 47)).alloc (.map (went W2.heap.size g) 4) := ⟨_, rfl⟩
        have BM := box_map W2 g (went W2.heap.size g) 4
        rw [← hW3] at BM
        obtain ⟨r, hr, hlk⟩ := wlook W3 (W2.heap.size + 1) W2.heap.size g BM.2.1 (bt z k)
        have HW3 := Aside0.mk hW3
        have HRR3 := Aside0.mk hr
        have HBM3 := Aside0.mk BM
        clear hW3 hr BM
        refine pure_ (i := 0) (N := some 34) (v := ?_) (a' := ?_) #[true, false, false, false, false, false, false, false, false, false, false] rfl rfl (by kernel_rfl) (fun _ _ _ h => h) (Or.inl ⟨by rfl, ?_⟩) ?_ ?_
        rotate_left
        · intro w'
          go_simp
          try with_reducible rfl
        rotate_left
        · simp only [Act.put, List.setIfInBounds_toArray, List.set_cons_zero, List.set_cons_succ]
          rfl
        refine pure_ (i := 2) (N := some 36) (v := ?_) (a' := ?_) #[true, false, true, false, false, false, false, false, false, false, false] rfl rfl (by kernel_rfl) (fun _ _ _ h => h) (Or.inl ⟨by rfl, ?_⟩) ?_ ?_
        rotate_left
        · intro w'
          go_simp
          try with_reducible rfl
        rotate_left
        · simp only [Act.put, List.setIfInBounds_toArray, List.set_cons_zero, List.set_cons_succ]
          rfl
        refine pure_ (i := 3) (N := some 37) (v := ?_) (a' := ?_) #[true, false, true, true, false, false, false, false, false, false, false] rfl rfl (by kernel_rfl) (fun _ _ _ h => h) (Or.inl ⟨by rfl, ?_⟩) ?_ ?_
        rotate_left
        · intro w'
          go_simp
          try with_reducible rfl
        rotate_left
        · simp only [Act.put, List.setIfInBounds_toArray, List.set_cons_zero, List.set_cons_succ]
          rfl
        refine pure_ (i := 4) (N := some 38) (v := ?_) (a' := ?_) #[true, false, true, true, true, false, false, false, false, false, false] rfl rfl (by kernel_rfl) (fun _ _ _ h => h) (Or.inl ⟨by rfl, ?_⟩) ?_ ?_
        rotate_left
        · intro w'
          go_simp
          try with_reducible rfl
        rotate_left
        · simp only [Act.put, List.setIfInBounds_toArray, List.set_cons_zero, List.set_cons_succ]
          rfl
        refine one_ (i := 1) (N := some 35) #[true, true, true, true, true, false, false, false, false, false, false] rfl rfl (by kernel_rfl) (by decide) (fun K hK => ?_)
        refine goes_ Tryd.func25 (by kernel_rfl) rfl #[.pointer (some ⟨g, 0, none⟩)] (by rfl) rfl rfl (by simp only [List.map_toArray, List.map_cons, List.map_nil]; rfl) ?_
        refine (words_calls W2 g).mono ?_
        rintro e w' ⟨rfl, rfl⟩
        rw [← HW3.out]
        refine ⟨_, rfl, ?_⟩
        refine hK.out _ _ (trivial) (fun hHeld => ?_)
        clear hK K
        refine norm_ (a' := ?_) ?_ ?_
        rotate_left
        · show Act.put _ (some 35) _ = _
          simp only [Act.put, List.setIfInBounds_toArray, List.set_cons_zero, List.set_cons_succ]
          rfl
        refine one_ (i := 5) (N := some 39) #[true, true, true, true, true, true, false, false, false, false, false] rfl rfl (by kernel_rfl) (by decide) (fun K hK => ?_)
        refine value_ (w1 := W3) (v := .tuple #[(r.map (·.2)).getD .nilFunc, .bool r.isSome]) (by rfl) rfl (by go_simp; rw [HBT.out, hlk]; rfl) ?_
        refine hK.out _ _ (trivial) (fun hHeld => ?_)
        clear hK K
        refine norm_ (a' := ?_) ?_ ?_
        rotate_left
        · show Act.put _ (some 39) _ = _
          simp only [Act.put, List.setIfInBounds_toArray, List.set_cons_zero, List.set_cons_succ]
          rfl
        refine pure_ (i := 6) (N := some 33) (v := ?_) (a' := ?_) #[true, true, true, true, true, true, true, false, false, false, false] rfl rfl (by kernel_rfl) (fun _ _ _ h => h) (Or.inl ⟨by rfl, ?_⟩) ?_ ?_
        rotate_left
        · intro w'
          go_simp
          try with_reducible rfl
        rotate_left
        · simp only [Act.put, List.setIfInBounds_toArray, List.set_cons_zero, List.set_cons_succ]
          rfl
        refine pure_ (i := 7) (N := some 40) (v := ?_) (a' := ?_) #[true, true, true, true, true, true, true, true, false, false, false] rfl rfl (by kernel_rfl) (fun _ _ _ h => h) (Or.inl ⟨by rfl, ?_⟩) ?_ ?_
        rotate_left
        · intro w'
          go_simp
          try with_reducible rfl
        rotate_left
        · simp only [Act.put, List.setIfInBounds_toArray, List.set_cons_zero, List.set_cons_succ]
          rfl
        refine pure_ (i := 8) (N := some 41) (v := ?_) (a' := ?_) #[true, true, true, true, true, true, true, true, true, false, false] rfl rfl (by kernel_rfl) (fun _ _ _ h => h) (Or.inl ⟨by rfl, ?_⟩) ?_ ?_
        rotate_left
        · intro w'
          go_simp
          try with_reducible rfl
        rotate_left
        · simp only [Act.put, List.setIfInBounds_toArray, List.set_cons_zero, List.set_cons_succ]
          rfl
        refine pure_ (i := 9) (N := some 10) (v := ?_) (a' := ?_) #[true, true, true, true, true, true, true, true, true, true, false] rfl rfl (by kernel_rfl) (fun _ _ _ h => h) (Or.inl ⟨by rfl, ?_⟩) ?_ ?_
        rotate_left
        · intro w'
          go_simp
          try with_reducible rfl
        rotate_left
        · simp only [Act.put, List.setIfInBounds_toArray, List.set_cons_zero, List.set_cons_succ]
          rfl
        refine pure_ (i := 10) (N := some 11) (v := ?_) (a' := ?_) #[true, true, true, true, true, true, true, true, true, true, true] rfl rfl (by kernel_rfl) (fun _ _ _ h => h) (Or.inl ⟨by rfl, ?_⟩) ?_ ?_
        rotate_left
        · intro w'
          go_simp
          try with_reducible rfl
        rotate_left
        · simp only [Act.put, List.setIfInBounds_toArray, List.set_cons_zero, List.set_cons_succ]
          rfl
        refine done_ (by kernel_rfl) ?_
        have HBW3 : Aside0 (Below W1.heap.size W1 W3) := ⟨by have h1 := HBM3.out.2.2; rw [HW2.out] at h1; exact below_step (below_drew1 (Below.refl _ _)) h1⟩
        have HPT3 := Aside0.mk HBM3.out.1
        have HD3 := Aside0.mk (HD2.out.below HBW3.out)
        have HB3 := Aside0.mk (HB2.out.trans (HBW3.out.mono (Nat.le_of_lt HD2.out.lt)))
        have HKP3 := Aside0.mk (HKP2.out.trans (Keep.of_below (g := g) (v := fr) HBW3.out) HB2.out.size)
        have HNE3 : Aside0 (W2.heap.size ≠ g) := ⟨by have h1 := HD2.out.lt; rw [HW2.out]; exact Nat.ne_of_gt h1⟩
        have HR3 : Aside0 (Kd.R Kd.string 9 W3 (g + 1) (fun k => k ≠ W2.heap.size) fr frs1) := ⟨Kd.R_below (Kd.R_mono (Kd.R_bound HR2.out) (fun k hk => by have h1 := hk.2.2.1; rw [HW2.out]; exact Nat.ne_of_lt h1)) HBW3.out⟩
        have KEY := Aside0.mk (fun (key : Int) (hkey : key = 101 ∨ key = 102 ∨ key = 99 ∨ key = 76) (t : ByteArray) (s2 : St) (frs2 : List ByteArray) (er2 : Int) (hw : wordF l key t s1 frs1 = some (s2, frs2, er2)) => word_calls W3 W2.heap.size g key hkey HNE3.out s1 s2 fr frs1 frs2 er2 t A c l HPT3.out HD3.out HR3.out (HA.out W3 HB3.out) HL.out HN1.out hw)
        have hr := HRR3.out
        unfold at4 at hr
        have H := H3.out
        have eE : z.extract (wrap64 ((k : Int) + 1)).toNat z.size = z.extract (k + 1) z.size := by rw [hwk.out]; rfl
        have EE := Aside0.mk eE
        clear eE
        have q3 : (0 ≤ wrap64 ((k : Int) + 1)) = True := eq_true (by have h1 := hwk.out; omega)
        by_cases e101 : bt z k = 101
        · rw [if_pos e101] at hr
          rw [if_pos (show bt z k = 101 ∨ bt z k = 102 ∨ bt z k = 99 ∨ bt z k = 76 by omega)] at H
          subst hr
          have H4 := Aside0.mk H
          clear H hlk
          by_cases hk2 : k + 1 < z.size
          · have H := H4.out
            rw [if_pos hk2] at H
            obtain ⟨⟨s2, frs2, er2⟩, hw, he⟩ := Option.map_eq_some_iff.1 H
            cases he
            have CALL : Aside0 (Calls Tryd.prog 35 #[.string (z.extract (wrap64 ((k : Int) + 1)).toNat z.size), .pointer (some ⟨W2.heap.size, 0, none⟩)] W3 (WEnd W3 g fr s2 (.slice A l.length c) frs2 er2)) := ⟨by rw [EE.out]; exact KEY.out 101 (by decide) _ s2 frs2 er2 (by rw [← e101]; exact hw)⟩
            have t2 : decide (wrap64 ((k : Int) + 1) < (z.size : Int)) = true := decide_eq_true (by have h1 := hwk.out; omega)
            have q4 : (wrap64 ((k : Int) + 1) ≤ (z.size : Int)) = True := eq_true (by have h1 := hwk.out; omega)
            have HK2 := Aside0.mk hk2
            clear H hw hk2
            go_wp2_with (go_at_call 35; refine CALL.out.mono ?_; rintro e w2 ⟨rfl, fr2, hd2, hr2, hb2, hk5, ho5⟩; have HE := Aside0.mk (And.intro hd2 (And.intro hr2 hb2)); have HE2 := Aside0.mk (And.intro hk5 ho5); clear hd2 hr2 hb2 hk5 ho5)
            go_ret2
            exact ⟨rfl, fr2, HE.out.1, HE.out.2.1, HB3.out.trans HE.out.2.2, HKP3.out.trans HE2.out.1 HB3.out.size, HE2.out.2.imp id (fun ⟨b2, f1, f2⟩ => ⟨b2, f1, Nat.le_trans HB3.out.size f2⟩)⟩
          · have H := H4.out
            rw [if_neg hk2] at H
            have t2 : decide (wrap64 ((k : Int) + 1) < (z.size : Int)) = false := decide_eq_false (by have h1 := hwk.out; omega)
            have hx2 := XX.out W3 HB3.out
            rcases hrs : rest with _ | ⟨t, rest2⟩
            · rw [hrs] at H
              cases H
              have t3 : decide ((m : Int) < 2) = true := decide_eq_true (by have h1 := HM.out; rw [hrs] at h1; simp only [List.length_cons, List.length_nil] at h1; omega)
              clear hrs hx2 hk2
              go_wp2
              go_ret2
              exact ⟨rfl, fr, HD3.out, Kd.R_mono HR3.out (fun _ _ => trivial), HB3.out, HKP3.out, .inl rfl⟩
            · have hxt := hx2 t rest2 hrs
              rw [hrs] at H
              obtain ⟨⟨s2, frs2, er2⟩, hw, he⟩ := Option.map_eq_some_iff.1 H
              cases he
              have CALL : Aside0 (Calls Tryd.prog 35 #[.string t, .pointer (some ⟨W2.heap.size, 0, none⟩)] W3 (WEnd W3 g fr s2 (.slice A l.length c) frs2 er2)) := ⟨KEY.out 101 (by decide) _ s2 frs2 er2 (by rw [← e101]; exact hw)⟩
              have h2 : 2 ≤ m := by have h1 := HM.out; rw [hrs] at h1; simp only [List.length_cons] at h1; omega
              have t3 : decide ((m : Int) < 2) = false := decide_eq_false (by omega)
              have t4 : ((1 : Int) < (m : Int)) = True := eq_true (by omega)
              have t5 : (1 : Int) < (m : Int) := by omega
              clear hrs hx2 hk2 H hw h2
              go_wp2_with (go_at_call 35; refine CALL.out.mono ?_; rintro e w2 ⟨rfl, fr2, hd2, hr2, hb2, hk5, ho5⟩; have HE := Aside0.mk (And.intro hd2 (And.intro hr2 hb2)); have HE2 := Aside0.mk (And.intro hk5 ho5); clear hd2 hr2 hb2 hk5 ho5)
              go_ret2
              exact ⟨rfl, fr2, HE.out.1, HE.out.2.1, HB3.out.trans HE.out.2.2, HKP3.out.trans HE2.out.1 HB3.out.size, HE2.out.2.imp id (fun ⟨b2, f1, f2⟩ => ⟨b2, f1, Nat.le_trans HB3.out.size f2⟩)⟩
        rw [if_neg e101] at hr
        by_cases e102 : bt z k = 102
        · rw [if_pos e102] at hr
          rw [if_pos (show bt z k = 101 ∨ bt z k = 102 ∨ bt z k = 99 ∨ bt z k = 76 by omega)] at H
          subst hr
          have H4 := Aside0.mk H
          clear H hlk
          by_cases hk2 : k + 1 < z.size
          · have H := H4.out
            rw [if_pos hk2] at H
            obtain ⟨⟨s2, frs2, er2⟩, hw, he⟩ := Option.map_eq_some_iff.1 H
            cases he
            have CALL : Aside0 (Calls Tryd.prog 36 #[.pointer (some ⟨g, 0, none⟩), .string (z.extract (wrap64 ((k : Int) + 1)).toNat z.size)] W3 (WEnd W3 g fr s2 (.slice A l.length c) frs2 er2)) := ⟨by rw [EE.out]; exact KEY.out 102 (by decide) _ s2 frs2 er2 (by rw [← e102]; exact hw)⟩
            have t2 : decide (wrap64 ((k : Int) + 1) < (z.size : Int)) = true := decide_eq_true (by have h1 := hwk.out; omega)
            have q4 : (wrap64 ((k : Int) + 1) ≤ (z.size : Int)) = True := eq_true (by have h1 := hwk.out; omega)
            have HK2 := Aside0.mk hk2
            clear H hw hk2
            go_wp2_with (go_at_call 36; refine CALL.out.mono ?_; rintro e w2 ⟨rfl, fr2, hd2, hr2, hb2, hk5, ho5⟩; have HE := Aside0.mk (And.intro hd2 (And.intro hr2 hb2)); have HE2 := Aside0.mk (And.intro hk5 ho5); clear hd2 hr2 hb2 hk5 ho5)
            go_ret2
            exact ⟨rfl, fr2, HE.out.1, HE.out.2.1, HB3.out.trans HE.out.2.2, HKP3.out.trans HE2.out.1 HB3.out.size, HE2.out.2.imp id (fun ⟨b2, f1, f2⟩ => ⟨b2, f1, Nat.le_trans HB3.out.size f2⟩)⟩
          · have H := H4.out
            rw [if_neg hk2] at H
            have t2 : decide (wrap64 ((k : Int) + 1) < (z.size : Int)) = false := decide_eq_false (by have h1 := hwk.out; omega)
            have hx2 := XX.out W3 HB3.out
            rcases hrs : rest with _ | ⟨t, rest2⟩
            · rw [hrs] at H
              cases H
              have t3 : decide ((m : Int) < 2) = true := decide_eq_true (by have h1 := HM.out; rw [hrs] at h1; simp only [List.length_cons, List.length_nil] at h1; omega)
              clear hrs hx2 hk2
              go_wp2
              go_ret2
              exact ⟨rfl, fr, HD3.out, Kd.R_mono HR3.out (fun _ _ => trivial), HB3.out, HKP3.out, .inl rfl⟩
            · have hxt := hx2 t rest2 hrs
              rw [hrs] at H
              obtain ⟨⟨s2, frs2, er2⟩, hw, he⟩ := Option.map_eq_some_iff.1 H
              cases he
              have CALL : Aside0 (Calls Tryd.prog 36 #[.pointer (some ⟨g, 0, none⟩), .string t] W3 (WEnd W3 g fr s2 (.slice A l.length c) frs2 er2)) := ⟨KEY.out 102 (by decide) _ s2 frs2 er2 (by rw [← e102]; exact hw)⟩
              have h2 : 2 ≤ m := by have h1 := HM.out; rw [hrs] at h1; simp only [List.length_cons] at h1; omega
              have t3 : decide ((m : Int) < 2) = false := decide_eq_false (by omega)
              have t4 : ((1 : Int) < (m : Int)) = True := eq_true (by omega)
              have t5 : (1 : Int) < (m : Int) := by omega
              clear hrs hx2 hk2 H hw h2
              go_wp2_with (go_at_call 36; refine CALL.out.mono ?_; rintro e w2 ⟨rfl, fr2, hd2, hr2, hb2, hk5, ho5⟩; have HE := Aside0.mk (And.intro hd2 (And.intro hr2 hb2)); have HE2 := Aside0.mk (And.intro hk5 ho5); clear hd2 hr2 hb2 hk5 ho5)
              go_ret2
              exact ⟨rfl, fr2, HE.out.1, HE.out.2.1, HB3.out.trans HE.out.2.2, HKP3.out.trans HE2.out.1 HB3.out.size, HE2.out.2.imp id (fun ⟨b2, f1, f2⟩ => ⟨b2, f1, Nat.le_trans HB3.out.size f2⟩)⟩
        rw [if_neg e102] at hr
        by_cases e99 : bt z k = 99
        · rw [if_pos e99] at hr
          rw [if_pos (show bt z k = 101 ∨ bt z k = 102 ∨ bt z k = 99 ∨ bt z k = 76 by omega)] at H
          subst hr
          have H4 := Aside0.mk H
          clear H hlk
          by_cases hk2 : k + 1 < z.size
          · have H := H4.out
            rw [if_pos hk2] at H
            obtain ⟨⟨s2, frs2, er2⟩, hw, he⟩ := Option.map_eq_some_iff.1 H
            cases he
            have CALL : Aside0 (Calls Tryd.prog 37 #[.string (z.extract (wrap64 ((k : Int) + 1)).toNat z.size), .pointer (some ⟨W2.heap.size, 0, none⟩)] W3 (WEnd W3 g fr s2 (.slice A l.length c) frs2 er2)) := ⟨by rw [EE.out]; exact KEY.out 99 (by decide) _ s2 frs2 er2 (by rw [← e99]; exact hw)⟩
            have t2 : decide (wrap64 ((k : Int) + 1) < (z.size : Int)) = true := decide_eq_true (by have h1 := hwk.out; omega)
            have q4 : (wrap64 ((k : Int) + 1) ≤ (z.size : Int)) = True := eq_true (by have h1 := hwk.out; omega)
            have HK2 := Aside0.mk hk2
            clear H hw hk2
            go_wp2_with (go_at_call 37; refine CALL.out.mono ?_; rintro e w2 ⟨rfl, fr2, hd2, hr2, hb2, hk5, ho5⟩; have HE := Aside0.mk (And.intro hd2 (And.intro hr2 hb2)); have HE2 := Aside0.mk (And.intro hk5 ho5); clear hd2 hr2 hb2 hk5 ho5)
            go_ret2
            exact ⟨rfl, fr2, HE.out.1, HE.out.2.1, HB3.out.trans HE.out.2.2, HKP3.out.trans HE2.out.1 HB3.out.size, HE2.out.2.imp id (fun ⟨b2, f1, f2⟩ => ⟨b2, f1, Nat.le_trans HB3.out.size f2⟩)⟩
          · have H := H4.out
            rw [if_neg hk2] at H
            have t2 : decide (wrap64 ((k : Int) + 1) < (z.size : Int)) = false := decide_eq_false (by have h1 := hwk.out; omega)
            have hx2 := XX.out W3 HB3.out
            rcases hrs : rest with _ | ⟨t, rest2⟩
            · rw [hrs] at H
              cases H
              have t3 : decide ((m : Int) < 2) = true := decide_eq_true (by have h1 := HM.out; rw [hrs] at h1; simp only [List.length_cons, List.length_nil] at h1; omega)
              clear hrs hx2 hk2
              go_wp2
              go_ret2
              exact ⟨rfl, fr, HD3.out, Kd.R_mono HR3.out (fun _ _ => trivial), HB3.out, HKP3.out, .inl rfl⟩
            · have hxt := hx2 t rest2 hrs
              rw [hrs] at H
              obtain ⟨⟨s2, frs2, er2⟩, hw, he⟩ := Option.map_eq_some_iff.1 H
              cases he
              have CALL : Aside0 (Calls Tryd.prog 37 #[.string t, .pointer (some ⟨W2.heap.size, 0, none⟩)] W3 (WEnd W3 g fr s2 (.slice A l.length c) frs2 er2)) := ⟨KEY.out 99 (by decide) _ s2 frs2 er2 (by rw [← e99]; exact hw)⟩
              have h2 : 2 ≤ m := by have h1 := HM.out; rw [hrs] at h1; simp only [List.length_cons] at h1; omega
              have t3 : decide ((m : Int) < 2) = false := decide_eq_false (by omega)
              have t4 : ((1 : Int) < (m : Int)) = True := eq_true (by omega)
              have t5 : (1 : Int) < (m : Int) := by omega
              clear hrs hx2 hk2 H hw h2
              go_wp2_with (go_at_call 37; refine CALL.out.mono ?_; rintro e w2 ⟨rfl, fr2, hd2, hr2, hb2, hk5, ho5⟩; have HE := Aside0.mk (And.intro hd2 (And.intro hr2 hb2)); have HE2 := Aside0.mk (And.intro hk5 ho5); clear hd2 hr2 hb2 hk5 ho5)
              go_ret2
              exact ⟨rfl, fr2, HE.out.1, HE.out.2.1, HB3.out.trans HE.out.2.2, HKP3.out.trans HE2.out.1 HB3.out.size, HE2.out.2.imp id (fun ⟨b2, f1, f2⟩ => ⟨b2, f1, Nat.le_trans HB3.out.size f2⟩)⟩
        rw [if_neg e99] at hr
        by_cases e76 : bt z k = 76
        · rw [if_pos e76] at hr
          rw [if_pos (show bt z k = 101 ∨ bt z k = 102 ∨ bt z k = 99 ∨ bt z k = 76 by omega)] at H
          subst hr
          have H4 := Aside0.mk H
          clear H hlk
          by_cases hk2 : k + 1 < z.size
          · have H := H4.out
            rw [if_pos hk2] at H
            obtain ⟨⟨s2, frs2, er2⟩, hw, he⟩ := Option.map_eq_some_iff.1 H
            cases he
            have CALL : Aside0 (Calls Tryd.prog 39 #[.string (z.extract (wrap64 ((k : Int) + 1)).toNat z.size), .pointer (some ⟨W2.heap.size, 0, none⟩)] W3 (WEnd W3 g fr s2 (.slice A l.length c) frs2 er2)) := ⟨by rw [EE.out]; exact KEY.out 76 (by decide) _ s2 frs2 er2 (by rw [← e76]; exact hw)⟩
            have t2 : decide (wrap64 ((k : Int) + 1) < (z.size : Int)) = true := decide_eq_true (by have h1 := hwk.out; omega)
            have q4 : (wrap64 ((k : Int) + 1) ≤ (z.size : Int)) = True := eq_true (by have h1 := hwk.out; omega)
            have HK2 := Aside0.mk hk2
            clear H hw hk2
            go_wp2_with (go_at_call 39; refine CALL.out.mono ?_; rintro e w2 ⟨rfl, fr2, hd2, hr2, hb2, hk5, ho5⟩; have HE := Aside0.mk (And.intro hd2 (And.intro hr2 hb2)); have HE2 := Aside0.mk (And.intro hk5 ho5); clear hd2 hr2 hb2 hk5 ho5)
            go_ret2
            exact ⟨rfl, fr2, HE.out.1, HE.out.2.1, HB3.out.trans HE.out.2.2, HKP3.out.trans HE2.out.1 HB3.out.size, HE2.out.2.imp id (fun ⟨b2, f1, f2⟩ => ⟨b2, f1, Nat.le_trans HB3.out.size f2⟩)⟩
          · have H := H4.out
            rw [if_neg hk2] at H
            have t2 : decide (wrap64 ((k : Int) + 1) < (z.size : Int)) = false := decide_eq_false (by have h1 := hwk.out; omega)
            have hx2 := XX.out W3 HB3.out
            rcases hrs : rest with _ | ⟨t, rest2⟩
            · rw [hrs] at H
              cases H
              have t3 : decide ((m : Int) < 2) = true := decide_eq_true (by have h1 := HM.out; rw [hrs] at h1; simp only [List.length_cons, List.length_nil] at h1; omega)
              clear hrs hx2 hk2
              go_wp2
              go_ret2
              exact ⟨rfl, fr, HD3.out, Kd.R_mono HR3.out (fun _ _ => trivial), HB3.out, HKP3.out, .inl rfl⟩
            · have hxt := hx2 t rest2 hrs
              rw [hrs] at H
              obtain ⟨⟨s2, frs2, er2⟩, hw, he⟩ := Option.map_eq_some_iff.1 H
              cases he
              have CALL : Aside0 (Calls Tryd.prog 39 #[.string t, .pointer (some ⟨W2.heap.size, 0, none⟩)] W3 (WEnd W3 g fr s2 (.slice A l.length c) frs2 er2)) := ⟨KEY.out 76 (by decide) _ s2 frs2 er2 (by rw [← e76]; exact hw)⟩
              have h2 : 2 ≤ m := by have h1 := HM.out; rw [hrs] at h1; simp only [List.length_cons] at h1; omega
              have t3 : decide ((m : Int) < 2) = false := decide_eq_false (by omega)
              have t4 : ((1 : Int) < (m : Int)) = True := eq_true (by omega)
              have t5 : (1 : Int) < (m : Int) := by omega
              clear hrs hx2 hk2 H hw h2
              go_wp2_with (go_at_call 39; refine CALL.out.mono ?_; rintro e w2 ⟨rfl, fr2, hd2, hr2, hb2, hk5, ho5⟩; have HE := Aside0.mk (And.intro hd2 (And.intro hr2 hb2)); have HE2 := Aside0.mk (And.intro hk5 ho5); clear hd2 hr2 hb2 hk5 ho5)
              go_ret2
              exact ⟨rfl, fr2, HE.out.1, HE.out.2.1, HB3.out.trans HE.out.2.2, HKP3.out.trans HE2.out.1 HB3.out.size, HE2.out.2.imp id (fun ⟨b2, f1, f2⟩ => ⟨b2, f1, Nat.le_trans HB3.out.size f2⟩)⟩
        rw [if_neg e76] at hr
        rw [if_neg (show ¬ (bt z k = 101 ∨ bt z k = 102 ∨ bt z k = 99 ∨ bt z k = 76) by omega)] at H
        cases H
        subst hr
        clear hlk
        go_wp2
        go_ret2
        exact ⟨rfl, fr, HD3.out, Kd.R_mono HR3.out (fun _ _ => trivial), HB3.out, HKP3.out, .inl rfl⟩
      · rw [if_neg hk] at H
        cases H
        have t1 : decide ((k : Int) < (z.size : Int)) = false := decide_eq_false (by omega)
        go_wp2
        go_ret2
        exact ⟨rfl, fr, HD1.out, HR1.out, HB1.out, HKP1.out, .inl rfl⟩
#print axioms letters_calls
end Go.Proofs.YtceflmoiiiclcaaDoor.EC
