/- The document's answer for opts: letters of one argument. Conditions: rows stand in memory. -/
import Derived.Test.YtceflmoiiiclcaaDoorExtRefW
namespace Go.Proofs.YtceflmoiiiclcaaDoor.RF
open Go.RowKit Go.Proofs.YtceflmoiiiclcaaDoorW.PrintWords Go.Proofs.YtceflmoiiiclcaaDoorW.PrintLast Go.Proofs.YtceflmoiiiclcaaDoorW.PrintMore
open EC
set_option linter.unusedVariables false
set_option linter.unusedSimpArgs false
/-- The box's cells, one by one. -/
abbrev PC (W : World) (g : Nat) (s : St) (frv ov : Value) : Prop := W.cell? ⟨g, 0, none⟩ = some (.bool s.q) ∧ W.cell? ⟨g, 1, none⟩ = some (.bool s.x) ∧ W.cell? ⟨g, 2, none⟩ = some (.bool s.a) ∧ W.cell? ⟨g, 3, none⟩ = some (.bool s.i) ∧ W.cell? ⟨g, 4, none⟩ = some (.string ⟨#[]⟩) ∧ W.cell? ⟨g, 5, none⟩ = some (.int .u8 s.en) ∧ W.cell? ⟨g, 6, none⟩ = some (.string s.lo) ∧ W.cell? ⟨g, 7, none⟩ = some (.slice none 0 0) ∧ W.cell? ⟨g, 8, none⟩ = some frv ∧ W.cell? ⟨g, 9, none⟩ = some ov ∧ W.cell? ⟨g, 10, none⟩ = some (.int .i64 0) ∧ W.cell? ⟨g, 11, none⟩ = some (.int .i64 0)
/-- How letters end. -/
def LP (w : World) (s' : St) (frv : Value) (frs frs' : List ByteArray) (ov : Value) (n er aT : Int) (e : Ending) (w' : World) : Prop :=
  ∃ v' m, e = .returned (.tuple #[pagg s' v' ov er aT, .int .i64 m]) ∧ (er = 0 → m = n) ∧ ((v' = frv ∧ frs' = frs) ∨ Kd.R Kd.string 9 w' w.heap.size (fun _ => True) v' frs') ∧ Below w.heap.size w w'
set_option maxHeartbeats 16000000 in
set_option maxRecDepth 100000 in
theorem refletters_calls (w : World) (s s' : St) (A : Option Addr) (c : Nat) (frs frs' : List ByteArray) (oA : Option Addr) (on oc : Nat) (d : Nat) (n er aT : Int) (xs : List ByteArray) (B : Option Addr) (cB : Nat) (i : Nat) (z : ByteArray) (rest : List ByteArray) (Af : Option Addr) (cf : Nat) (l : List PX.S54)
    (hC : Kd.C Kd.string w A frs.length frs) (hlf : frs.length < 1000000) (hL : Kd.C PX.k54 w Af l.length l) (hl : l.length < 35184372088832) (hd : ∀ x ∈ l, x.f1.length < 4611686018427387904) (hX : Kd.C Kd.string w B xs.length xs) (hxl : xs.length < 1000000) (hx : xs.drop i = z :: rest) (hz : z.size < 4611686018427387904)
    (haT : aT = if er = 0 then 0 else (i : Int)) (h : letF l z rest.head? d 1 s frs = some (s', frs', n, er)) :
    Calls Tryd.prog 29 #[pagg s (.slice A frs.length c) (.slice oA on oc) 0 0, .slice B xs.length cB, .int .i64 i, .slice Af l.length cf] w (LP w s' (.slice A frs.length c) frs frs' (.slice oA on oc) n er aT) := by
  have hil : i < xs.length := by
    rcases Nat.lt_or_ge i xs.length with q | q
    · exact q
    · rw [List.drop_eq_nil_of_le q] at hx; cases hx
  have hzi : xs.getD i ByteArray.empty = z := by
    have h1 := congrArg (fun l : List ByteArray => l[0]?) hx
    simp at h1
    rw [List.getD_eq_getElem?_getD]
    simpa using congrArg (fun o : Option ByteArray => o.getD ByteArray.empty) h1
  have hri : ∀ t r2, rest = t :: r2 → i + 1 < xs.length ∧ xs.getD (i + 1) ByteArray.empty = t := by
    intro t r2 he
    rw [he] at hx
    have h0 := congrArg List.length hx
    simp at h0
    have h1 := congrArg (fun l : List ByteArray => l[1]?) hx
    simp at h1
    refine ⟨by omega, ?_⟩
    rw [List.getD_eq_getElem?_getD]
    simpa using congrArg (fun o : Option ByteArray => o.getD ByteArray.empty) h1
  have hrn : rest = [] → ¬ i + 1 < xs.length := by
    intro he
    rw [he] at hx
    have h0 := congrArg List.length hx
    simp at h0
    omega
  have XA : Aside0 (∀ W', Below w.heap.size w W' → ∀ (j : Nat) (hj : j < xs.length), ∃ bd, B = some bd ∧ W'.cell? (bd.add j) = some (.string (xs.getD j ByteArray.empty))) := ⟨fun W' hW j hj => by
    obtain ⟨ad, cc, e, hcl, hk, hc⟩ := Kd.C_get (Kd.C_below hX hW) ByteArray.empty (j : Int) (by omega) (by omega)
    have hk2 : cc = [.string (xs.getD ((j : Int)).toNat ByteArray.empty)] := hk
    subst hk2
    have := hc 0 _ rfl
    rw [Int.toNat_natCast] at this
    refine ⟨ad, e, ?_⟩
    have e1 : ad.add (j * 1 + 0) = ad.add j := by rw [Nat.mul_one, Nat.add_zero]
    rw [← e1]
    exact this⟩
  obtain ⟨bd, rfl, _⟩ := XA.out w (Below.refl _ _) i hil
  have XX : Aside0 (∀ W', Below w.heap.size w W' → ∀ (j : Nat) (hj : j < xs.length), W'.cell? (bd.add j) = some (.string (xs.getD j ByteArray.empty))) := ⟨fun W' hW j hj => by
    obtain ⟨b2, e2, h2⟩ := XA.out W' hW j hj
    cases e2
    exact h2⟩
  have HC := Aside0.mk hC
  have HLF := Aside0.mk hlf
  have HF := Aside0.mk hL
  have HL := Aside0.mk hl
  have HDD := Aside0.mk hd
  have HXL := Aside0.mk hxl
  have HSZ := Aside0.mk hz
  have HAT := Aside0.mk haT
  have HH := Aside0.mk h
  have HRI := Aside0.mk hri
  have HRN := Aside0.mk hrn
  have HIL := Aside0.mk hil
  have x1 := XX.out ((w.alloc (.cells #[.bool s.q, .bool s.x, .bool s.a, .bool s.i, .string ⟨#[]⟩, .int .u8 s.en, .string s.lo, .slice none 0 0, .slice A frs.length c, .slice oA on oc, .int .i64 0, .int .i64 0] 74)).alloc (.cells #[.bool false, .bool false, .bool false, .bool false, .string ⟨#[]⟩, .int .u8 0, .string ⟨#[]⟩, .slice none 0 0, .slice none 0 0, .slice none 0 0, .int .i64 0, .int .i64 0] 74)) (below_alloc (below_alloc (Below.refl _ _) _) _) i hil
  rw [hzi] at x1
  have p0 : (0 : Int) ≤ (i : Int) := by omega
  have p1 : (i : Int) < (xs.length : Int) := by omega
  clear hC hlf hL hl hd hX hxl hx hz haT h hri hrn hil hzi XA
  unfold pagg
  go_enter Tryd.func29, Tryd.ntmps29
  go_wp2
  obtain ⟨W1, hW1⟩ : ∃ W1, W1 = (w.alloc (.cells #[.bool s.q, .bool s.x, .bool s.a, .bool s.i, .string ⟨#[]⟩, .int .u8 s.en, .string s.lo, .slice none 0 0, .slice A frs.length c, .slice oA on oc, .int .i64 0, .int .i64 0] 74)).alloc (.cells #[.bool false, .bool false, .bool false, .bool false, .string ⟨#[]⟩, .int .u8 0, .string ⟨#[]⟩, .slice none 0 0, .slice none 0 0, .slice none 0 0, .int .i64 0, .int .i64 0] 74) := ⟨_, rfl⟩
  rw [← hW1]
  have h2 := two_pat w s _ _ _ _ W1 hW1
  have HP := Aside0.mk h2.1
  have HZ := Aside0.mk h2.2.1
  have HB := Aside0.mk h2.2.2
  clear hW1 h2 x1 p0 p1
  go_loopg [11] d (fun kq v11 wr => ∃ (k : Nat) (s1 : St), v11 = .int .i64 k ∧ Aside0 (letF l z rest.head? kq k s1 frs = some (s', frs', n, er)) ∧ Aside0 (PAt wr w.heap.size s1 (.slice A frs.length c) (.slice oA on oc) 0 0) ∧ Aside0 (PAt wr (w.heap.size + 1) stZ (.slice none 0 0) (.slice none 0 0) 0 0) ∧ Aside0 (Below w.heap.size w wr))
  case atStart => exact ⟨1, s, rfl, HH, HP, HZ, HB⟩
  case round =>
    clear HP HZ HB HH
    obtain ⟨k, s1, rfl, HF1, HP, HZ, HB⟩ := hrel
    cases gk with
    | zero => exact absurd HF1.out (by simp [letF])
    | succ k1 =>
      have H := HF1.out
      clear HF1
      unfold letF at H
      have fz := HZ.out.f
      have cz := HZ.out.c
      have fp := HP.out.f
      have cp := HP.out.c
      by_cases hk : k < z.size
      · rw [if_pos hk] at H
        have t1 : decide ((k : Int) < (z.size : Int)) = true := decide_eq_true (by omega)
        have q0 : (0 : Int) ≤ (k : Int) := by omega
        have q1 : (k : Int) < (z.size : Int) := by omega
        have hbt : ∀ (h : k < z.size), (((z[k]'h).toNat : Nat) : Int) = bt z k := fun h => bt_at z (k : Int) h
        have hwk : Aside0 (wrap64 ((k : Int) + 1) = ((k + 1 : Nat) : Int)) := ⟨by have h1 := HSZ.out; unfold wrap64; omega⟩
        by_cases e110 : bt z k = 110
        · rw [if_pos e110] at H
          have H2 := Aside0.mk H
          clear H
          go_wp2
          go_roundg k1
          case measure => omega
          case rel => exact ⟨k + 1, { s1 with q := true }, (by rw [hwk.out]), H2, ⟨(HP.out.set0 true)⟩, ⟨(HZ.out.far _ _ (Nat.succ_ne_self _) _)⟩, ⟨(HB.out.setCell (Nat.le_refl _) _)⟩⟩
        rw [if_neg e110] at H
        have n110 : (bt z k == 110) = false := beq_eq_false_iff_ne.2 e110
        by_cases e69 : bt z k = 69
        · rw [if_pos e69] at H
          have H2 := Aside0.mk H
          clear H
          go_wp2
          go_roundg k1
          case measure => omega
          case rel => exact ⟨k + 1, { s1 with x := true }, (by rw [hwk.out]), H2, ⟨(HP.out.set1 true)⟩, ⟨(HZ.out.far _ _ (Nat.succ_ne_self _) _)⟩, ⟨(HB.out.setCell (Nat.le_refl _) _)⟩⟩
        rw [if_neg e69] at H
        have n69 : (bt z k == 69) = false := beq_eq_false_iff_ne.2 e69
        by_cases e115 : bt z k = 115
        · rw [if_pos e115] at H
          have H2 := Aside0.mk H
          clear H
          go_wp2
          go_roundg k1
          case measure => omega
          case rel => exact ⟨k + 1, { s1 with a := true }, (by rw [hwk.out]), H2, ⟨(HP.out.set2 true)⟩, ⟨(HZ.out.far _ _ (Nat.succ_ne_self _) _)⟩, ⟨(HB.out.setCell (Nat.le_refl _) _)⟩⟩
        rw [if_neg e115] at H
        have n115 : (bt z k == 115) = false := beq_eq_false_iff_ne.2 e115
        by_cases e105 : bt z k = 105
        · rw [if_pos e105] at H
          have H2 := Aside0.mk H
          clear H
          go_wp2
          go_roundg k1
          case measure => omega
          case rel => exact ⟨k + 1, { s1 with a := true, i := true }, (by rw [hwk.out]), H2, ⟨((HP.out.set2 true).set3 true)⟩, ⟨((HZ.out.far _ _ (Nat.succ_ne_self _) _).far _ _ (Nat.succ_ne_self _) _)⟩, ⟨((HB.out.setCell (Nat.le_refl _) _).setCell (Nat.le_refl _) _)⟩⟩
        rw [if_neg e105] at H
        have n105 : (bt z k == 105) = false := beq_eq_false_iff_ne.2 e105
        by_cases eW : bt z k = 101 ∨ bt z k = 102 ∨ bt z k = 99 ∨ bt z k = 76
        · rw [if_pos eW] at H
          by_cases hk2 : k + 1 < z.size
          · rw [if_pos hk2] at H
            obtain ⟨⟨s2, frs2, er2⟩, hw, he⟩ := Option.map_eq_some_iff.1 H
            cases he
            have CALL := refword_calls wr.drew s1 s2 A c frs frs2 oA on oc (bt z k) eW (z.extract (k + 1) z.size) Af cf l (i : Int) er2 (Kd.C_below HC.out (below_drew1 HB.out)) HLF.out (Kd.C_below HF.out (below_drew1 HB.out)) HL.out HDD.out hw
            unfold WP at CALL
            rw [← HAT.out] at CALL
            have eE : z.extract (k + 1) z.size = z.extract (wrap64 ((k : Int) + 1)).toNat z.size := by rw [hwk.out]; rfl
            rw [eE] at CALL
            unfold pagg at CALL
            clear H hw eE
            have t2 : decide (wrap64 ((k : Int) + 1) < (z.size : Int)) = true := decide_eq_true (by have h1 := hwk.out; omega)
            have q3 : (0 ≤ wrap64 ((k : Int) + 1)) = True := eq_true (by have h1 := hwk.out; omega)
            have q4 : (wrap64 ((k : Int) + 1) ≤ (z.size : Int)) = True := eq_true (by have h1 := hwk.out; omega)
            rcases eW with e | e | e | e
            · rw [e] at CALL
              have KEY := Aside0.mk CALL
              clear CALL
              go_wp2
              refine start_ (n := 13) (S := fun w' => PC w' w.heap.size s1 (.slice A frs.length c) (.slice oA on oc)) (ds := [11]) #[false, false, false, false, false, false, false, false, false, false, false, false, false] (by kernel_rfl) rfl rfl ((HP.out.of (W' := wr.drew) rfl).c) (fun hHeld => ?_)
              refine take_ (i := 0) (N := some 57) (v := ?_) (a' := ?_) #[true, false, false, false, false, false, false, false, false, false, false, false, false] rfl rfl (by kernel_rfl) (fun _ _ _ h => h) (Or.inl ⟨by rfl, ?_⟩) hHeld ?_ ?_
              rotate_left
              · rintro w' ⟨s0, s1_, s2_, s3, s4, s5, s6, s7, s8, s9, s10, s11⟩
                go_simp
                try with_reducible rfl
              rotate_left
              · simp only [Act.put, List.setIfInBounds_toArray, List.set_cons_zero, List.set_cons_succ]
                rfl
              refine pure_ (i := 1) (N := some 58) (v := ?_) (a' := ?_) #[true, true, false, false, false, false, false, false, false, false, false, false, false] rfl rfl (by kernel_rfl) (fun _ _ _ h => h) (Or.inl ⟨by rfl, ?_⟩) ?_ ?_
              rotate_left
              · intro w'
                go_simp
                try with_reducible rfl
              rotate_left
              · simp only [Act.put, List.setIfInBounds_toArray, List.set_cons_zero, List.set_cons_succ]
                rfl
              refine pure_ (i := 2) (N := some 59) (v := ?_) (a' := ?_) #[true, true, true, false, false, false, false, false, false, false, false, false, false] rfl rfl (by kernel_rfl) (fun _ _ _ h => h) (Or.inl ⟨by rfl, ?_⟩) ?_ ?_
              rotate_left
              · intro w'
                go_simp
                try with_reducible rfl
              rotate_left
              · simp only [Act.put, List.setIfInBounds_toArray, List.set_cons_zero, List.set_cons_succ]
                rfl
              refine pure_ (i := 3) (N := some 60) (v := ?_) (a' := ?_) #[true, true, true, true, false, false, false, false, false, false, false, false, false] rfl rfl (by kernel_rfl) (fun _ _ _ h => h) (Or.inl ⟨by rfl, ?_⟩) ?_ ?_
              rotate_left
              · intro w'
                go_simp
                try with_reducible rfl
              rotate_left
              · simp only [Act.put, List.setIfInBounds_toArray, List.set_cons_zero, List.set_cons_succ]
                rfl
              refine pure_ (i := 4) (N := some 61) (v := ?_) (a' := ?_) #[true, true, true, true, true, false, false, false, false, false, false, false, false] rfl rfl (by kernel_rfl) (fun _ _ _ h => h) (Or.inl ⟨by rfl, ?_⟩) ?_ ?_
              rotate_left
              · intro w'
                go_simp
                try with_reducible rfl
              rotate_left
              · simp only [Act.put, List.setIfInBounds_toArray, List.set_cons_zero, List.set_cons_succ]
                rfl
              refine pure_ (i := 5) (N := some 62) (v := ?_) (a' := ?_) #[true, true, true, true, true, true, false, false, false, false, false, false, false] rfl rfl (by kernel_rfl) (fun _ _ _ h => h) (Or.inl ⟨by rfl, ?_⟩) ?_ ?_
              rotate_left
              · intro w'
                go_simp
                try with_reducible rfl
              rotate_left
              · simp only [Act.put, List.setIfInBounds_toArray, List.set_cons_zero, List.set_cons_succ]
                rfl
              refine pure_ (i := 6) (N := some 63) (v := ?_) (a' := ?_) #[true, true, true, true, true, true, true, false, false, false, false, false, false] rfl rfl (by kernel_rfl) (fun _ _ _ h => h) (Or.inl ⟨by rfl, ?_⟩) ?_ ?_
              rotate_left
              · intro w'
                go_simp
                try with_reducible rfl
              rotate_left
              · simp only [Act.put, List.setIfInBounds_toArray, List.set_cons_zero, List.set_cons_succ]
                rfl
              refine pure_ (i := 7) (N := some 64) (v := .string (z.extract (wrap64 ((k : Int) + 1)).toNat z.size)) (a' := ?_) #[true, true, true, true, true, true, true, true, false, false, false, false, false] rfl rfl (by kernel_rfl) (fun _ _ _ h => h) (Or.inl ⟨by rfl, ?_⟩) ?_ ?_
              · intro w'
                go_simp
                simp only [i64_w, q3, q4, and_self, if_true]
              rotate_left
              · simp only [Act.put, List.setIfInBounds_toArray, List.set_cons_zero, List.set_cons_succ]
                rfl
              refine pure_ (i := 8) (N := some 65) (v := ?_) (a' := ?_) #[true, true, true, true, true, true, true, true, true, false, false, false, false] rfl rfl (by kernel_rfl) (fun _ _ _ h => h) (Or.inl ⟨by rfl, ?_⟩) ?_ ?_
              rotate_left
              · intro w'
                go_simp
                try with_reducible rfl
              rotate_left
              · simp only [Act.put, List.setIfInBounds_toArray, List.set_cons_zero, List.set_cons_succ]
                rfl
              refine pure_ (i := 9) (N := some 66) (v := ?_) (a' := ?_) #[true, true, true, true, true, true, true, true, true, true, false, false, false] rfl rfl (by kernel_rfl) (fun _ _ _ h => h) (Or.inl ⟨by rfl, ?_⟩) ?_ ?_
              rotate_left
              · intro w'
                go_simp
                try with_reducible rfl
              rotate_left
              · simp only [Act.put, List.setIfInBounds_toArray, List.set_cons_zero, List.set_cons_succ]
                rfl
              refine one_ (i := 10) (N := some 67) #[true, true, true, true, true, true, true, true, true, true, true, false, false] rfl rfl (by kernel_rfl) (by decide) (fun K hK => ?_)
              refine goes_ Tryd.func42 (by kernel_rfl) rfl #[.agg #[.bool s1.q, .bool s1.x, .bool s1.a, .bool s1.i, .string ⟨#[]⟩, .int .u8 s1.en, .string s1.lo, .slice none 0 0, .slice A frs.length c, .slice oA on oc, .int .i64 0, .int .i64 0], .int .u8 101, .string (z.extract (wrap64 ((k : Int) + 1)).toNat z.size), .slice Af l.length cf, .int .i64 (i : Int)] (by rfl) rfl rfl (by simp only [List.map_toArray, List.map_cons, List.map_nil]; rfl) ?_
              refine KEY.out.mono ?_
              rintro e w2 ⟨v2, rfl, hv2, hb2⟩
              obtain ⟨A2, m2, c2, hv3⟩ : ∃ A2 m2 c2, v2 = .slice A2 m2 c2 := by
                rcases hv2 with ⟨h, _⟩ | h
                · exact ⟨_, _, _, h⟩
                · obtain ⟨A2, c2, h⟩ := Kd.R_slice h
                  exact ⟨_, _, _, h⟩
              subst hv3
              have HZ2 := Aside0.mk ((HZ.out.of (W' := wr.drew) rfl).below hb2)
              have HP2 := Aside0.mk ((HP.out.of (W' := wr.drew) rfl).below hb2)
              have HB2 := Aside0.mk (below_step (below_drew1 HB.out) hb2)
              have HV2 := Aside0.mk hv2
              have HBB := Aside0.mk hb2
              clear hv2 hb2
              refine ⟨_, rfl, ?_⟩
              refine hK.out _ _ (HP2.out.c) (fun hHeld => ?_)
              clear hK K
              refine norm_ (a' := ?_) ?_ ?_
              rotate_left
              · show Act.put _ (some 67) _ = _
                simp only [Act.put, List.setIfInBounds_toArray, List.set_cons_zero, List.set_cons_succ]
                rfl
              refine last_ (i := 11) (N := none) #[true, true, true, true, true, true, true, true, true, true, true, true, false] rfl rfl (by kernel_rfl) (by decide) (fun K hK => ?_)
              have fz := HZ2.out.f
              have cz := HZ2.out.c
              obtain ⟨W4, hW4⟩ : ∃ W4, W4 = put12 w2 (w.heap.size + 1) s2 (.slice A2 m2 c2) (.slice oA on oc) er2 aT := ⟨_, rfl⟩
              refine skip_ (w1 := W4) (by rfl) rfl (by first | (go_simp; done) | (go_simp; rw [hW4])) ?_
              refine hK.out _ _ ?_
              clear hK K
              refine pure_ (i := 12) (N := some 9) (v := ?_) (a' := ?_) #[true, true, true, true, true, true, true, true, true, true, true, true, true] rfl rfl (by kernel_rfl) (fun _ _ _ h => h) (Or.inl ⟨by rfl, ?_⟩) ?_ ?_
              rotate_left
              · intro w'
                go_simp
                try with_reducible rfl
              rotate_left
              · simp only [Act.put, List.setIfInBounds_toArray, List.set_cons_zero, List.set_cons_succ]
                rfl
              refine done_ (by kernel_rfl) ?_
              have HG := put12_at (s := s2) (frv := .slice A2 m2 c2) (ov := .slice oA on oc) (er := er2) (at_ := aT) HZ2.out
              rw [← hW4] at HG
              have HB4 : Below w.heap.size w W4 := by rw [hW4]; exact put12_below HB2.out (by omega)
              have HW1 : w.heap.size ≤ wr.drew.heap.size := HB.out.size
              have HW3 : w.heap.size + 1 < wr.drew.heap.size := HZ.out.lt
              have HV4 : (Value.slice A2 m2 c2 = .slice A frs.length c ∧ frs2 = frs) ∨ Kd.R Kd.string 9 W4 w.heap.size (fun _ => True) (.slice A2 m2 c2) frs2 := by
                rcases HV2.out with h | h
                · exact .inl h
                · rw [hW4]
                  exact .inr (Kd.R_lower (put12_R h HW3) HW1)
              clear hW4
              go_wp2
              refine bodyPost_ret (results_ct rfl _ _ (w.heap.size + 1) 74 _ (0, 0) _ rfl HG Tryd.underlying74 rfl (by kernel_rfl)) rfl ?_
              exact ⟨_, _, rfl, fun _ => rfl, HV4, HB4⟩
            · rw [e] at CALL
              have KEY := Aside0.mk CALL
              clear CALL
              go_wp2
              refine start_ (n := 13) (S := fun w' => PC w' w.heap.size s1 (.slice A frs.length c) (.slice oA on oc)) (ds := [11]) #[false, false, false, false, false, false, false, false, false, false, false, false, false] (by kernel_rfl) rfl rfl ((HP.out.of (W' := wr.drew) rfl).c) (fun hHeld => ?_)
              refine take_ (i := 0) (N := some 57) (v := ?_) (a' := ?_) #[true, false, false, false, false, false, false, false, false, false, false, false, false] rfl rfl (by kernel_rfl) (fun _ _ _ h => h) (Or.inl ⟨by rfl, ?_⟩) hHeld ?_ ?_
              rotate_left
              · rintro w' ⟨s0, s1_, s2_, s3, s4, s5, s6, s7, s8, s9, s10, s11⟩
                go_simp
                try with_reducible rfl
              rotate_left
              · simp only [Act.put, List.setIfInBounds_toArray, List.set_cons_zero, List.set_cons_succ]
                rfl
              refine pure_ (i := 1) (N := some 58) (v := ?_) (a' := ?_) #[true, true, false, false, false, false, false, false, false, false, false, false, false] rfl rfl (by kernel_rfl) (fun _ _ _ h => h) (Or.inl ⟨by rfl, ?_⟩) ?_ ?_
              rotate_left
              · intro w'
                go_simp
                try with_reducible rfl
              rotate_left
              · simp only [Act.put, List.setIfInBounds_toArray, List.set_cons_zero, List.set_cons_succ]
                rfl
              refine pure_ (i := 2) (N := some 59) (v := ?_) (a' := ?_) #[true, true, true, false, false, false, false, false, false, false, false, false, false] rfl rfl (by kernel_rfl) (fun _ _ _ h => h) (Or.inl ⟨by rfl, ?_⟩) ?_ ?_
              rotate_left
              · intro w'
                go_simp
                try with_reducible rfl
              rotate_left
              · simp only [Act.put, List.setIfInBounds_toArray, List.set_cons_zero, List.set_cons_succ]
                rfl
              refine pure_ (i := 3) (N := some 60) (v := ?_) (a' := ?_) #[true, true, true, true, false, false, false, false, false, false, false, false, false] rfl rfl (by kernel_rfl) (fun _ _ _ h => h) (Or.inl ⟨by rfl, ?_⟩) ?_ ?_
              rotate_left
              · intro w'
                go_simp
                try with_reducible rfl
              rotate_left
              · simp only [Act.put, List.setIfInBounds_toArray, List.set_cons_zero, List.set_cons_succ]
                rfl
              refine pure_ (i := 4) (N := some 61) (v := ?_) (a' := ?_) #[true, true, true, true, true, false, false, false, false, false, false, false, false] rfl rfl (by kernel_rfl) (fun _ _ _ h => h) (Or.inl ⟨by rfl, ?_⟩) ?_ ?_
              rotate_left
              · intro w'
                go_simp
                try with_reducible rfl
              rotate_left
              · simp only [Act.put, List.setIfInBounds_toArray, List.set_cons_zero, List.set_cons_succ]
                rfl
              refine pure_ (i := 5) (N := some 62) (v := ?_) (a' := ?_) #[true, true, true, true, true, true, false, false, false, false, false, false, false] rfl rfl (by kernel_rfl) (fun _ _ _ h => h) (Or.inl ⟨by rfl, ?_⟩) ?_ ?_
              rotate_left
              · intro w'
                go_simp
                try with_reducible rfl
              rotate_left
              · simp only [Act.put, List.setIfInBounds_toArray, List.set_cons_zero, List.set_cons_succ]
                rfl
              refine pure_ (i := 6) (N := some 63) (v := ?_) (a' := ?_) #[true, true, true, true, true, true, true, false, false, false, false, false, false] rfl rfl (by kernel_rfl) (fun _ _ _ h => h) (Or.inl ⟨by rfl, ?_⟩) ?_ ?_
              rotate_left
              · intro w'
                go_simp
                try with_reducible rfl
              rotate_left
              · simp only [Act.put, List.setIfInBounds_toArray, List.set_cons_zero, List.set_cons_succ]
                rfl
              refine pure_ (i := 7) (N := some 64) (v := .string (z.extract (wrap64 ((k : Int) + 1)).toNat z.size)) (a' := ?_) #[true, true, true, true, true, true, true, true, false, false, false, false, false] rfl rfl (by kernel_rfl) (fun _ _ _ h => h) (Or.inl ⟨by rfl, ?_⟩) ?_ ?_
              · intro w'
                go_simp
                simp only [i64_w, q3, q4, and_self, if_true]
              rotate_left
              · simp only [Act.put, List.setIfInBounds_toArray, List.set_cons_zero, List.set_cons_succ]
                rfl
              refine pure_ (i := 8) (N := some 65) (v := ?_) (a' := ?_) #[true, true, true, true, true, true, true, true, true, false, false, false, false] rfl rfl (by kernel_rfl) (fun _ _ _ h => h) (Or.inl ⟨by rfl, ?_⟩) ?_ ?_
              rotate_left
              · intro w'
                go_simp
                try with_reducible rfl
              rotate_left
              · simp only [Act.put, List.setIfInBounds_toArray, List.set_cons_zero, List.set_cons_succ]
                rfl
              refine pure_ (i := 9) (N := some 66) (v := ?_) (a' := ?_) #[true, true, true, true, true, true, true, true, true, true, false, false, false] rfl rfl (by kernel_rfl) (fun _ _ _ h => h) (Or.inl ⟨by rfl, ?_⟩) ?_ ?_
              rotate_left
              · intro w'
                go_simp
                try with_reducible rfl
              rotate_left
              · simp only [Act.put, List.setIfInBounds_toArray, List.set_cons_zero, List.set_cons_succ]
                rfl
              refine one_ (i := 10) (N := some 67) #[true, true, true, true, true, true, true, true, true, true, true, false, false] rfl rfl (by kernel_rfl) (by decide) (fun K hK => ?_)
              refine goes_ Tryd.func42 (by kernel_rfl) rfl #[.agg #[.bool s1.q, .bool s1.x, .bool s1.a, .bool s1.i, .string ⟨#[]⟩, .int .u8 s1.en, .string s1.lo, .slice none 0 0, .slice A frs.length c, .slice oA on oc, .int .i64 0, .int .i64 0], .int .u8 102, .string (z.extract (wrap64 ((k : Int) + 1)).toNat z.size), .slice Af l.length cf, .int .i64 (i : Int)] (by rfl) rfl rfl (by simp only [List.map_toArray, List.map_cons, List.map_nil]; rfl) ?_
              refine KEY.out.mono ?_
              rintro e w2 ⟨v2, rfl, hv2, hb2⟩
              obtain ⟨A2, m2, c2, hv3⟩ : ∃ A2 m2 c2, v2 = .slice A2 m2 c2 := by
                rcases hv2 with ⟨h, _⟩ | h
                · exact ⟨_, _, _, h⟩
                · obtain ⟨A2, c2, h⟩ := Kd.R_slice h
                  exact ⟨_, _, _, h⟩
              subst hv3
              have HZ2 := Aside0.mk ((HZ.out.of (W' := wr.drew) rfl).below hb2)
              have HP2 := Aside0.mk ((HP.out.of (W' := wr.drew) rfl).below hb2)
              have HB2 := Aside0.mk (below_step (below_drew1 HB.out) hb2)
              have HV2 := Aside0.mk hv2
              have HBB := Aside0.mk hb2
              clear hv2 hb2
              refine ⟨_, rfl, ?_⟩
              refine hK.out _ _ (HP2.out.c) (fun hHeld => ?_)
              clear hK K
              refine norm_ (a' := ?_) ?_ ?_
              rotate_left
              · show Act.put _ (some 67) _ = _
                simp only [Act.put, List.setIfInBounds_toArray, List.set_cons_zero, List.set_cons_succ]
                rfl
              refine last_ (i := 11) (N := none) #[true, true, true, true, true, true, true, true, true, true, true, true, false] rfl rfl (by kernel_rfl) (by decide) (fun K hK => ?_)
              have fz := HZ2.out.f
              have cz := HZ2.out.c
              obtain ⟨W4, hW4⟩ : ∃ W4, W4 = put12 w2 (w.heap.size + 1) s2 (.slice A2 m2 c2) (.slice oA on oc) er2 aT := ⟨_, rfl⟩
              refine skip_ (w1 := W4) (by rfl) rfl (by first | (go_simp; done) | (go_simp; rw [hW4])) ?_
              refine hK.out _ _ ?_
              clear hK K
              refine pure_ (i := 12) (N := some 9) (v := ?_) (a' := ?_) #[true, true, true, true, true, true, true, true, true, true, true, true, true] rfl rfl (by kernel_rfl) (fun _ _ _ h => h) (Or.inl ⟨by rfl, ?_⟩) ?_ ?_
              rotate_left
              · intro w'
                go_simp
                try with_reducible rfl
              rotate_left
              · simp only [Act.put, List.setIfInBounds_toArray, List.set_cons_zero, List.set_cons_succ]
                rfl
              refine done_ (by kernel_rfl) ?_
              have HG := put12_at (s := s2) (frv := .slice A2 m2 c2) (ov := .slice oA on oc) (er := er2) (at_ := aT) HZ2.out
              rw [← hW4] at HG
              have HB4 : Below w.heap.size w W4 := by rw [hW4]; exact put12_below HB2.out (by omega)
              have HW1 : w.heap.size ≤ wr.drew.heap.size := HB.out.size
              have HW3 : w.heap.size + 1 < wr.drew.heap.size := HZ.out.lt
              have HV4 : (Value.slice A2 m2 c2 = .slice A frs.length c ∧ frs2 = frs) ∨ Kd.R Kd.string 9 W4 w.heap.size (fun _ => True) (.slice A2 m2 c2) frs2 := by
                rcases HV2.out with h | h
                · exact .inl h
                · rw [hW4]
                  exact .inr (Kd.R_lower (put12_R h HW3) HW1)
              clear hW4
              go_wp2
              refine bodyPost_ret (results_ct rfl _ _ (w.heap.size + 1) 74 _ (0, 0) _ rfl HG Tryd.underlying74 rfl (by kernel_rfl)) rfl ?_
              exact ⟨_, _, rfl, fun _ => rfl, HV4, HB4⟩
            · rw [e] at CALL
              have KEY := Aside0.mk CALL
              clear CALL
              go_wp2
              refine start_ (n := 13) (S := fun w' => PC w' w.heap.size s1 (.slice A frs.length c) (.slice oA on oc)) (ds := [11]) #[false, false, false, false, false, false, false, false, false, false, false, false, false] (by kernel_rfl) rfl rfl ((HP.out.of (W' := wr.drew) rfl).c) (fun hHeld => ?_)
              refine take_ (i := 0) (N := some 57) (v := ?_) (a' := ?_) #[true, false, false, false, false, false, false, false, false, false, false, false, false] rfl rfl (by kernel_rfl) (fun _ _ _ h => h) (Or.inl ⟨by rfl, ?_⟩) hHeld ?_ ?_
              rotate_left
              · rintro w' ⟨s0, s1_, s2_, s3, s4, s5, s6, s7, s8, s9, s10, s11⟩
                go_simp
                try with_reducible rfl
              rotate_left
              · simp only [Act.put, List.setIfInBounds_toArray, List.set_cons_zero, List.set_cons_succ]
                rfl
              refine pure_ (i := 1) (N := some 58) (v := ?_) (a' := ?_) #[true, true, false, false, false, false, false, false, false, false, false, false, false] rfl rfl (by kernel_rfl) (fun _ _ _ h => h) (Or.inl ⟨by rfl, ?_⟩) ?_ ?_
              rotate_left
              · intro w'
                go_simp
                try with_reducible rfl
              rotate_left
              · simp only [Act.put, List.setIfInBounds_toArray, List.set_cons_zero, List.set_cons_succ]
                rfl
              refine pure_ (i := 2) (N := some 59) (v := ?_) (a' := ?_) #[true, true, true, false, false, false, false, false, false, false, false, false, false] rfl rfl (by kernel_rfl) (fun _ _ _ h => h) (Or.inl ⟨by rfl, ?_⟩) ?_ ?_
              rotate_left
              · intro w'
                go_simp
                try with_reducible rfl
              rotate_left
              · simp only [Act.put, List.setIfInBounds_toArray, List.set_cons_zero, List.set_cons_succ]
                rfl
              refine pure_ (i := 3) (N := some 60) (v := ?_) (a' := ?_) #[true, true, true, true, false, false, false, false, false, false, false, false, false] rfl rfl (by kernel_rfl) (fun _ _ _ h => h) (Or.inl ⟨by rfl, ?_⟩) ?_ ?_
              rotate_left
              · intro w'
                go_simp
                try with_reducible rfl
              rotate_left
              · simp only [Act.put, List.setIfInBounds_toArray, List.set_cons_zero, List.set_cons_succ]
                rfl
              refine pure_ (i := 4) (N := some 61) (v := ?_) (a' := ?_) #[true, true, true, true, true, false, false, false, false, false, false, false, false] rfl rfl (by kernel_rfl) (fun _ _ _ h => h) (Or.inl ⟨by rfl, ?_⟩) ?_ ?_
              rotate_left
              · intro w'
                go_simp
                try with_reducible rfl
              rotate_left
              · simp only [Act.put, List.setIfInBounds_toArray, List.set_cons_zero, List.set_cons_succ]
                rfl
              refine pure_ (i := 5) (N := some 62) (v := ?_) (a' := ?_) #[true, true, true, true, true, true, false, false, false, false, false, false, false] rfl rfl (by kernel_rfl) (fun _ _ _ h => h) (Or.inl ⟨by rfl, ?_⟩) ?_ ?_
              rotate_left
              · intro w'
                go_simp
                try with_reducible rfl
              rotate_left
              · simp only [Act.put, List.setIfInBounds_toArray, List.set_cons_zero, List.set_cons_succ]
                rfl
              refine pure_ (i := 6) (N := some 63) (v := ?_) (a' := ?_) #[true, true, true, true, true, true, true, false, false, false, false, false, false] rfl rfl (by kernel_rfl) (fun _ _ _ h => h) (Or.inl ⟨by rfl, ?_⟩) ?_ ?_
              rotate_left
              · intro w'
                go_simp
                try with_reducible rfl
              rotate_left
              · simp only [Act.put, List.setIfInBounds_toArray, List.set_cons_zero, List.set_cons_succ]
                rfl
              refine pure_ (i := 7) (N := some 64) (v := .string (z.extract (wrap64 ((k : Int) + 1)).toNat z.size)) (a' := ?_) #[true, true, true, true, true, true, true, true, false, false, false, false, false] rfl rfl (by kernel_rfl) (fun _ _ _ h => h) (Or.inl ⟨by rfl, ?_⟩) ?_ ?_
              · intro w'
                go_simp
                simp only [i64_w, q3, q4, and_self, if_true]
              rotate_left
              · simp only [Act.put, List.setIfInBounds_toArray, List.set_cons_zero, List.set_cons_succ]
                rfl
              refine pure_ (i := 8) (N := some 65) (v := ?_) (a' := ?_) #[true, true, true, true, true, true, true, true, true, false, false, false, false] rfl rfl (by kernel_rfl) (fun _ _ _ h => h) (Or.inl ⟨by rfl, ?_⟩) ?_ ?_
              rotate_left
              · intro w'
                go_simp
                try with_reducible rfl
              rotate_left
              · simp only [Act.put, List.setIfInBounds_toArray, List.set_cons_zero, List.set_cons_succ]
                rfl
              refine pure_ (i := 9) (N := some 66) (v := ?_) (a' := ?_) #[true, true, true, true, true, true, true, true, true, true, false, false, false] rfl rfl (by kernel_rfl) (fun _ _ _ h => h) (Or.inl ⟨by rfl, ?_⟩) ?_ ?_
              rotate_left
              · intro w'
                go_simp
                try with_reducible rfl
              rotate_left
              · simp only [Act.put, List.setIfInBounds_toArray, List.set_cons_zero, List.set_cons_succ]
                rfl
              refine one_ (i := 10) (N := some 67) #[true, true, true, true, true, true, true, true, true, true, true, false, false] rfl rfl (by kernel_rfl) (by decide) (fun K hK => ?_)
              refine goes_ Tryd.func42 (by kernel_rfl) rfl #[.agg #[.bool s1.q, .bool s1.x, .bool s1.a, .bool s1.i, .string ⟨#[]⟩, .int .u8 s1.en, .string s1.lo, .slice none 0 0, .slice A frs.length c, .slice oA on oc, .int .i64 0, .int .i64 0], .int .u8 99, .string (z.extract (wrap64 ((k : Int) + 1)).toNat z.size), .slice Af l.length cf, .int .i64 (i : Int)] (by rfl) rfl rfl (by simp only [List.map_toArray, List.map_cons, List.map_nil]; rfl) ?_
              refine KEY.out.mono ?_
              rintro e w2 ⟨v2, rfl, hv2, hb2⟩
              obtain ⟨A2, m2, c2, hv3⟩ : ∃ A2 m2 c2, v2 = .slice A2 m2 c2 := by
                rcases hv2 with ⟨h, _⟩ | h
                · exact ⟨_, _, _, h⟩
                · obtain ⟨A2, c2, h⟩ := Kd.R_slice h
                  exact ⟨_, _, _, h⟩
              subst hv3
              have HZ2 := Aside0.mk ((HZ.out.of (W' := wr.drew) rfl).below hb2)
              have HP2 := Aside0.mk ((HP.out.of (W' := wr.drew) rfl).below hb2)
              have HB2 := Aside0.mk (below_step (below_drew1 HB.out) hb2)
              have HV2 := Aside0.mk hv2
              have HBB := Aside0.mk hb2
              clear hv2 hb2
              refine ⟨_, rfl, ?_⟩
              refine hK.out _ _ (HP2.out.c) (fun hHeld => ?_)
              clear hK K
              refine norm_ (a' := ?_) ?_ ?_
              rotate_left
              · show Act.put _ (some 67) _ = _
                simp only [Act.put, List.setIfInBounds_toArray, List.set_cons_zero, List.set_cons_succ]
                rfl
              refine last_ (i := 11) (N := none) #[true, true, true, true, true, true, true, true, true, true, true, true, false] rfl rfl (by kernel_rfl) (by decide) (fun K hK => ?_)
              have fz := HZ2.out.f
              have cz := HZ2.out.c
              obtain ⟨W4, hW4⟩ : ∃ W4, W4 = put12 w2 (w.heap.size + 1) s2 (.slice A2 m2 c2) (.slice oA on oc) er2 aT := ⟨_, rfl⟩
              refine skip_ (w1 := W4) (by rfl) rfl (by first | (go_simp; done) | (go_simp; rw [hW4])) ?_
              refine hK.out _ _ ?_
              clear hK K
              refine pure_ (i := 12) (N := some 9) (v := ?_) (a' := ?_) #[true, true, true, true, true, true, true, true, true, true, true, true, true] rfl rfl (by kernel_rfl) (fun _ _ _ h => h) (Or.inl ⟨by rfl, ?_⟩) ?_ ?_
              rotate_left
              · intro w'
                go_simp
                try with_reducible rfl
              rotate_left
              · simp only [Act.put, List.setIfInBounds_toArray, List.set_cons_zero, List.set_cons_succ]
                rfl
              refine done_ (by kernel_rfl) ?_
              have HG := put12_at (s := s2) (frv := .slice A2 m2 c2) (ov := .slice oA on oc) (er := er2) (at_ := aT) HZ2.out
              rw [← hW4] at HG
              have HB4 : Below w.heap.size w W4 := by rw [hW4]; exact put12_below HB2.out (by omega)
              have HW1 : w.heap.size ≤ wr.drew.heap.size := HB.out.size
              have HW3 : w.heap.size + 1 < wr.drew.heap.size := HZ.out.lt
              have HV4 : (Value.slice A2 m2 c2 = .slice A frs.length c ∧ frs2 = frs) ∨ Kd.R Kd.string 9 W4 w.heap.size (fun _ => True) (.slice A2 m2 c2) frs2 := by
                rcases HV2.out with h | h
                · exact .inl h
                · rw [hW4]
                  exact .inr (Kd.R_lower (put12_R h HW3) HW1)
              clear hW4
              go_wp2
              refine bodyPost_ret (results_ct rfl _ _ (w.heap.size + 1) 74 _ (0, 0) _ rfl HG Tryd.underlying74 rfl (by kernel_rfl)) rfl ?_
              exact ⟨_, _, rfl, fun _ => rfl, HV4, HB4⟩
            · rw [e] at CALL
              have KEY := Aside0.mk CALL
              clear CALL
              go_wp2
              refine start_ (n := 13) (S := fun w' => PC w' w.heap.size s1 (.slice A frs.length c) (.slice oA on oc)) (ds := [11]) #[false, false, false, false, false, false, false, false, false, false, false, false, false] (by kernel_rfl) rfl rfl ((HP.out.of (W' := wr.drew) rfl).c) (fun hHeld => ?_)
              refine take_ (i := 0) (N := some 57) (v := ?_) (a' := ?_) #[true, false, false, false, false, false, false, false, false, false, false, false, false] rfl rfl (by kernel_rfl) (fun _ _ _ h => h) (Or.inl ⟨by rfl, ?_⟩) hHeld ?_ ?_
              rotate_left
              · rintro w' ⟨s0, s1_, s2_, s3, s4, s5, s6, s7, s8, s9, s10, s11⟩
                go_simp
                try with_reducible rfl
              rotate_left
              · simp only [Act.put, List.setIfInBounds_toArray, List.set_cons_zero, List.set_cons_succ]
                rfl
              refine pure_ (i := 1) (N := some 58) (v := ?_) (a' := ?_) #[true, true, false, false, false, false, false, false, false, false, false, false, false] rfl rfl (by kernel_rfl) (fun _ _ _ h => h) (Or.inl ⟨by rfl, ?_⟩) ?_ ?_
              rotate_left
              · intro w'
                go_simp
                try with_reducible rfl
              rotate_left
              · simp only [Act.put, List.setIfInBounds_toArray, List.set_cons_zero, List.set_cons_succ]
                rfl
              refine pure_ (i := 2) (N := some 59) (v := ?_) (a' := ?_) #[true, true, true, false, false, false, false, false, false, false, false, false, false] rfl rfl (by kernel_rfl) (fun _ _ _ h => h) (Or.inl ⟨by rfl, ?_⟩) ?_ ?_
              rotate_left
              · intro w'
                go_simp
                try with_reducible rfl
              rotate_left
              · simp only [Act.put, List.setIfInBounds_toArray, List.set_cons_zero, List.set_cons_succ]
                rfl
              refine pure_ (i := 3) (N := some 60) (v := ?_) (a' := ?_) #[true, true, true, true, false, false, false, false, false, false, false, false, false] rfl rfl (by kernel_rfl) (fun _ _ _ h => h) (Or.inl ⟨by rfl, ?_⟩) ?_ ?_
              rotate_left
              · intro w'
                go_simp
                try with_reducible rfl
              rotate_left
              · simp only [Act.put, List.setIfInBounds_toArray, List.set_cons_zero, List.set_cons_succ]
                rfl
              refine pure_ (i := 4) (N := some 61) (v := ?_) (a' := ?_) #[true, true, true, true, true, false, false, false, false, false, false, false, false] rfl rfl (by kernel_rfl) (fun _ _ _ h => h) (Or.inl ⟨by rfl, ?_⟩) ?_ ?_
              rotate_left
              · intro w'
                go_simp
                try with_reducible rfl
              rotate_left
              · simp only [Act.put, List.setIfInBounds_toArray, List.set_cons_zero, List.set_cons_succ]
                rfl
              refine pure_ (i := 5) (N := some 62) (v := ?_) (a' := ?_) #[true, true, true, true, true, true, false, false, false, false, false, false, false] rfl rfl (by kernel_rfl) (fun _ _ _ h => h) (Or.inl ⟨by rfl, ?_⟩) ?_ ?_
              rotate_left
              · intro w'
                go_simp
                try with_reducible rfl
              rotate_left
              · simp only [Act.put, List.setIfInBounds_toArray, List.set_cons_zero, List.set_cons_succ]
                rfl
              refine pure_ (i := 6) (N := some 63) (v := ?_) (a' := ?_) #[true, true, true, true, true, true, true, false, false, false, false, false, false] rfl rfl (by kernel_rfl) (fun _ _ _ h => h) (Or.inl ⟨by rfl, ?_⟩) ?_ ?_
              rotate_left
              · intro w'
                go_simp
                try with_reducible rfl
              rotate_left
              · simp only [Act.put, List.setIfInBounds_toArray, List.set_cons_zero, List.set_cons_succ]
                rfl
              refine pure_ (i := 7) (N := some 64) (v := .string (z.extract (wrap64 ((k : Int) + 1)).toNat z.size)) (a' := ?_) #[true, true, true, true, true, true, true, true, false, false, false, false, false] rfl rfl (by kernel_rfl) (fun _ _ _ h => h) (Or.inl ⟨by rfl, ?_⟩) ?_ ?_
              · intro w'
                go_simp
                simp only [i64_w, q3, q4, and_self, if_true]
              rotate_left
              · simp only [Act.put, List.setIfInBounds_toArray, List.set_cons_zero, List.set_cons_succ]
                rfl
              refine pure_ (i := 8) (N := some 65) (v := ?_) (a' := ?_) #[true, true, true, true, true, true, true, true, true, false, false, false, false] rfl rfl (by kernel_rfl) (fun _ _ _ h => h) (Or.inl ⟨by rfl, ?_⟩) ?_ ?_
              rotate_left
              · intro w'
                go_simp
                try with_reducible rfl
              rotate_left
              · simp only [Act.put, List.setIfInBounds_toArray, List.set_cons_zero, List.set_cons_succ]
                rfl
              refine pure_ (i := 9) (N := some 66) (v := ?_) (a' := ?_) #[true, true, true, true, true, true, true, true, true, true, false, false, false] rfl rfl (by kernel_rfl) (fun _ _ _ h => h) (Or.inl ⟨by rfl, ?_⟩) ?_ ?_
              rotate_left
              · intro w'
                go_simp
                try with_reducible rfl
              rotate_left
              · simp only [Act.put, List.setIfInBounds_toArray, List.set_cons_zero, List.set_cons_succ]
                rfl
              refine one_ (i := 10) (N := some 67) #[true, true, true, true, true, true, true, true, true, true, true, false, false] rfl rfl (by kernel_rfl) (by decide) (fun K hK => ?_)
              refine goes_ Tryd.func42 (by kernel_rfl) rfl #[.agg #[.bool s1.q, .bool s1.x, .bool s1.a, .bool s1.i, .string ⟨#[]⟩, .int .u8 s1.en, .string s1.lo, .slice none 0 0, .slice A frs.length c, .slice oA on oc, .int .i64 0, .int .i64 0], .int .u8 76, .string (z.extract (wrap64 ((k : Int) + 1)).toNat z.size), .slice Af l.length cf, .int .i64 (i : Int)] (by rfl) rfl rfl (by simp only [List.map_toArray, List.map_cons, List.map_nil]; rfl) ?_
              refine KEY.out.mono ?_
              rintro e w2 ⟨v2, rfl, hv2, hb2⟩
              obtain ⟨A2, m2, c2, hv3⟩ : ∃ A2 m2 c2, v2 = .slice A2 m2 c2 := by
                rcases hv2 with ⟨h, _⟩ | h
                · exact ⟨_, _, _, h⟩
                · obtain ⟨A2, c2, h⟩ := Kd.R_slice h
                  exact ⟨_, _, _, h⟩
              subst hv3
              have HZ2 := Aside0.mk ((HZ.out.of (W' := wr.drew) rfl).below hb2)
              have HP2 := Aside0.mk ((HP.out.of (W' := wr.drew) rfl).below hb2)
              have HB2 := Aside0.mk (below_step (below_drew1 HB.out) hb2)
              have HV2 := Aside0.mk hv2
              have HBB := Aside0.mk hb2
              clear hv2 hb2
              refine ⟨_, rfl, ?_⟩
              refine hK.out _ _ (HP2.out.c) (fun hHeld => ?_)
              clear hK K
              refine norm_ (a' := ?_) ?_ ?_
              rotate_left
              · show Act.put _ (some 67) _ = _
                simp only [Act.put, List.setIfInBounds_toArray, List.set_cons_zero, List.set_cons_succ]
                rfl
              refine last_ (i := 11) (N := none) #[true, true, true, true, true, true, true, true, true, true, true, true, false] rfl rfl (by kernel_rfl) (by decide) (fun K hK => ?_)
              have fz := HZ2.out.f
              have cz := HZ2.out.c
              obtain ⟨W4, hW4⟩ : ∃ W4, W4 = put12 w2 (w.heap.size + 1) s2 (.slice A2 m2 c2) (.slice oA on oc) er2 aT := ⟨_, rfl⟩
              refine skip_ (w1 := W4) (by rfl) rfl (by first | (go_simp; done) | (go_simp; rw [hW4])) ?_
              refine hK.out _ _ ?_
              clear hK K
              refine pure_ (i := 12) (N := some 9) (v := ?_) (a' := ?_) #[true, true, true, true, true, true, true, true, true, true, true, true, true] rfl rfl (by kernel_rfl) (fun _ _ _ h => h) (Or.inl ⟨by rfl, ?_⟩) ?_ ?_
              rotate_left
              · intro w'
                go_simp
                try with_reducible rfl
              rotate_left
              · simp only [Act.put, List.setIfInBounds_toArray, List.set_cons_zero, List.set_cons_succ]
                rfl
              refine done_ (by kernel_rfl) ?_
              have HG := put12_at (s := s2) (frv := .slice A2 m2 c2) (ov := .slice oA on oc) (er := er2) (at_ := aT) HZ2.out
              rw [← hW4] at HG
              have HB4 : Below w.heap.size w W4 := by rw [hW4]; exact put12_below HB2.out (by omega)
              have HW1 : w.heap.size ≤ wr.drew.heap.size := HB.out.size
              have HW3 : w.heap.size + 1 < wr.drew.heap.size := HZ.out.lt
              have HV4 : (Value.slice A2 m2 c2 = .slice A frs.length c ∧ frs2 = frs) ∨ Kd.R Kd.string 9 W4 w.heap.size (fun _ => True) (.slice A2 m2 c2) frs2 := by
                rcases HV2.out with h | h
                · exact .inl h
                · rw [hW4]
                  exact .inr (Kd.R_lower (put12_R h HW3) HW1)
              clear hW4
              go_wp2
              refine bodyPost_ret (results_ct rfl _ _ (w.heap.size + 1) 74 _ (0, 0) _ rfl HG Tryd.underlying74 rfl (by kernel_rfl)) rfl ?_
              exact ⟨_, _, rfl, fun _ => rfl, HV4, HB4⟩
          · rw [if_neg hk2] at H
            have t2 : decide (wrap64 ((k : Int) + 1) < (z.size : Int)) = false := decide_eq_false (by have h1 := hwk.out; omega)
            rcases hrs : rest with _ | ⟨t2, r2⟩
            · rw [hrs] at H
              cases H
              have h3 := HRN.out hrs
              have t3 : decide (wrap64 ((i : Int) + 1) < (xs.length : Int)) = false := decide_eq_false (by have h1 := HXL.out; have h2 := HIL.out; unfold wrap64; omega)
              clear hrs h3
              rcases eW with e | e | e | e
              all_goals (
                have HP7 := (HP.out.set10 70).set11 (i : Int)
                have HZ7 := (HZ.out.far w.heap.size 10 (Nat.succ_ne_self _) (.int .i64 70)).far w.heap.size 11 (Nat.succ_ne_self _) (.int .i64 (i : Int))
                have HB7 := (HB.out.setCell (p := ⟨w.heap.size, 10, none⟩) (Nat.le_refl _) (.int .i64 70)).setCell (p := ⟨w.heap.size, 11, none⟩) (Nat.le_refl _) (.int .i64 (i : Int))
                have haT := HAT.out
                rw [if_neg (by decide)] at haT
                subst haT
                go_wp2
                refine bodyPost_ret (results_ct rfl _ _ (w.heap.size + 1) 74 _ (0, 0) _ rfl (put12_at (s := s') (frv := .slice A frs.length c) (ov := .slice oA on oc) (er := 70) (at_ := (i : Int)) HZ7) Tryd.underlying74 rfl (by kernel_rfl)) rfl ?_
                exact ⟨_, _, rfl, fun q => absurd q (by decide), .inl ⟨rfl, rfl⟩, put12_below HB7 (by omega)⟩)
            · have h3 := HRI.out t2 r2 hrs
              have hadd : bd.add (i + 1) = ⟨bd.block, bd.off + (i + 1), none⟩ := by simp [Addr.add]
              have XT : Aside0 (∀ W', Below w.heap.size w W' → W'.cell? ⟨bd.block, bd.off + (i + 1), none⟩ = some (.string t2)) := ⟨fun W' hW => by rw [← h3.2, ← hadd]; exact XX.out W' hW (i + 1) h3.1⟩
              rw [hrs] at H
              obtain ⟨⟨s2, frs2, er2⟩, hw, he⟩ := Option.map_eq_some_iff.1 H
              cases he
              have CALL := refword_calls wr.drew s1 s2 A c frs frs2 oA on oc (bt z k) eW t2 Af cf l (i : Int) er2 (Kd.C_below HC.out (below_drew1 HB.out)) HLF.out (Kd.C_below HF.out (below_drew1 HB.out)) HL.out HDD.out hw
              unfold WP at CALL
              rw [← HAT.out] at CALL
              unfold pagg at CALL
              have hwi : wrap64 ((i : Int) + 1) = ((i + 1 : Nat) : Int) := by have h1 := HXL.out; have h2 := HIL.out; unfold wrap64; omega
              have t3 : decide (wrap64 ((i : Int) + 1) < (xs.length : Int)) = true := decide_eq_true (by rw [hwi]; have := h3.1; omega)
              have q3 : (0 ≤ wrap64 ((i : Int) + 1)) = True := eq_true (by rw [hwi]; omega)
              have q4 : (wrap64 ((i : Int) + 1) < (xs.length : Int)) = True := eq_true (by rw [hwi]; have := h3.1; omega)
              have q5 : (wrap64 ((i : Int) + 1)).toNat = i + 1 := by rw [hwi]; rfl
              have HWI := Aside0.mk hwi
              clear H hw hrs h3 hwi
              rcases eW with e | e | e | e
              · rw [e] at CALL
                have KEY := Aside0.mk CALL
                clear CALL
                go_wp2
                refine start_ (n := 14) (S := fun w' => PC w' w.heap.size s1 (.slice A frs.length c) (.slice oA on oc) ∧ w'.cell? ⟨bd.block, bd.off + (i + 1), none⟩ = some (.string t2)) (ds := [12]) #[false, false, false, false, false, false, false, false, false, false, false, false, false, false] (by kernel_rfl) rfl rfl (⟨(HP.out.of (W' := wr.drew) rfl).c, XT.out wr.drew (below_drew1 HB.out)⟩) (fun hHeld => ?_)
                refine take_ (i := 0) (N := some 73) (v := ?_) (a' := ?_) #[true, false, false, false, false, false, false, false, false, false, false, false, false, false] rfl rfl (by kernel_rfl) (fun _ _ _ h => h) (Or.inl ⟨by rfl, ?_⟩) hHeld ?_ ?_
                rotate_left
                · rintro w' ⟨⟨s0, s1_, s2_, s3, s4, s5, s6, s7, s8, s9, s10, s11⟩, s12⟩
                  go_simp
                  try with_reducible rfl
                rotate_left
                · simp only [Act.put, List.setIfInBounds_toArray, List.set_cons_zero, List.set_cons_succ]
                  rfl
                refine pure_ (i := 1) (N := some 74) (v := ?_) (a' := ?_) #[true, true, false, false, false, false, false, false, false, false, false, false, false, false] rfl rfl (by kernel_rfl) (fun _ _ _ h => h) (Or.inl ⟨by rfl, ?_⟩) ?_ ?_
                rotate_left
                · intro w'
                  go_simp
                  try with_reducible rfl
                rotate_left
                · simp only [Act.put, List.setIfInBounds_toArray, List.set_cons_zero, List.set_cons_succ]
                  rfl
                refine pure_ (i := 2) (N := some 75) (v := ?_) (a' := ?_) #[true, true, true, false, false, false, false, false, false, false, false, false, false, false] rfl rfl (by kernel_rfl) (fun _ _ _ h => h) (Or.inl ⟨by rfl, ?_⟩) ?_ ?_
                rotate_left
                · intro w'
                  go_simp
                  try with_reducible rfl
                rotate_left
                · simp only [Act.put, List.setIfInBounds_toArray, List.set_cons_zero, List.set_cons_succ]
                  rfl
                refine pure_ (i := 3) (N := some 76) (v := ?_) (a' := ?_) #[true, true, true, true, false, false, false, false, false, false, false, false, false, false] rfl rfl (by kernel_rfl) (fun _ _ _ h => h) (Or.inl ⟨by rfl, ?_⟩) ?_ ?_
                rotate_left
                · intro w'
                  go_simp
                  try with_reducible rfl
                rotate_left
                · simp only [Act.put, List.setIfInBounds_toArray, List.set_cons_zero, List.set_cons_succ]
                  rfl
                refine pure_ (i := 4) (N := some 77) (v := ?_) (a' := ?_) #[true, true, true, true, true, false, false, false, false, false, false, false, false, false] rfl rfl (by kernel_rfl) (fun _ _ _ h => h) (Or.inl ⟨by rfl, ?_⟩) ?_ ?_
                rotate_left
                · intro w'
                  go_simp
                  try with_reducible rfl
                rotate_left
                · simp only [Act.put, List.setIfInBounds_toArray, List.set_cons_zero, List.set_cons_succ]
                  rfl
                refine pure_ (i := 5) (N := some 78) (v := ?_) (a' := ?_) #[true, true, true, true, true, true, false, false, false, false, false, false, false, false] rfl rfl (by kernel_rfl) (fun _ _ _ h => h) (Or.inl ⟨by rfl, ?_⟩) ?_ ?_
                rotate_left
                · intro w'
                  go_simp
                  try with_reducible rfl
                rotate_left
                · simp only [Act.put, List.setIfInBounds_toArray, List.set_cons_zero, List.set_cons_succ]
                  rfl
                refine pure_ (i := 6) (N := some 79) (v := ?_) (a' := ?_) #[true, true, true, true, true, true, true, false, false, false, false, false, false, false] rfl rfl (by kernel_rfl) (fun _ _ _ h => h) (Or.inl ⟨by rfl, ?_⟩) ?_ ?_
                rotate_left
                · intro w'
                  go_simp
                  try with_reducible rfl
                rotate_left
                · simp only [Act.put, List.setIfInBounds_toArray, List.set_cons_zero, List.set_cons_succ]
                  rfl
                refine pure_ (i := 7) (N := some 80) (v := .pointer (some ⟨bd.block, bd.off + (i + 1), none⟩)) (a' := ?_) #[true, true, true, true, true, true, true, true, false, false, false, false, false, false] rfl rfl (by kernel_rfl) (fun _ _ _ h => h) (Or.inl ⟨by rfl, ?_⟩) ?_ ?_
                · intro w'
                  go_simp
                  simp only [i64_w, q3, q4, q5, and_self, if_true, hadd]
                rotate_left
                · simp only [Act.put, List.setIfInBounds_toArray, List.set_cons_zero, List.set_cons_succ]
                  rfl
                refine take_ (i := 8) (N := some 81) (v := ?_) (a' := ?_) #[true, true, true, true, true, true, true, true, true, false, false, false, false, false] rfl rfl (by kernel_rfl) (fun _ _ _ h => h) (Or.inl ⟨by rfl, ?_⟩) hHeld ?_ ?_
                rotate_left
                · rintro w' ⟨⟨s0, s1_, s2_, s3, s4, s5, s6, s7, s8, s9, s10, s11⟩, s12⟩
                  go_simp
                  try with_reducible rfl
                rotate_left
                · simp only [Act.put, List.setIfInBounds_toArray, List.set_cons_zero, List.set_cons_succ]
                  rfl
                refine pure_ (i := 9) (N := some 82) (v := ?_) (a' := ?_) #[true, true, true, true, true, true, true, true, true, true, false, false, false, false] rfl rfl (by kernel_rfl) (fun _ _ _ h => h) (Or.inl ⟨by rfl, ?_⟩) ?_ ?_
                rotate_left
                · intro w'
                  go_simp
                  try with_reducible rfl
                rotate_left
                · simp only [Act.put, List.setIfInBounds_toArray, List.set_cons_zero, List.set_cons_succ]
                  rfl
                refine pure_ (i := 10) (N := some 83) (v := ?_) (a' := ?_) #[true, true, true, true, true, true, true, true, true, true, true, false, false, false] rfl rfl (by kernel_rfl) (fun _ _ _ h => h) (Or.inl ⟨by rfl, ?_⟩) ?_ ?_
                rotate_left
                · intro w'
                  go_simp
                  try with_reducible rfl
                rotate_left
                · simp only [Act.put, List.setIfInBounds_toArray, List.set_cons_zero, List.set_cons_succ]
                  rfl
                refine one_ (i := 11) (N := some 84) #[true, true, true, true, true, true, true, true, true, true, true, true, false, false] rfl rfl (by kernel_rfl) (by decide) (fun K hK => ?_)
                refine goes_ Tryd.func42 (by kernel_rfl) rfl #[.agg #[.bool s1.q, .bool s1.x, .bool s1.a, .bool s1.i, .string ⟨#[]⟩, .int .u8 s1.en, .string s1.lo, .slice none 0 0, .slice A frs.length c, .slice oA on oc, .int .i64 0, .int .i64 0], .int .u8 101, .string t2, .slice Af l.length cf, .int .i64 (i : Int)] (by rfl) rfl rfl (by simp only [List.map_toArray, List.map_cons, List.map_nil]; rfl) ?_
                refine KEY.out.mono ?_
                rintro e w2 ⟨v2, rfl, hv2, hb2⟩
                obtain ⟨A2, m2, c2, hv3⟩ : ∃ A2 m2 c2, v2 = .slice A2 m2 c2 := by
                  rcases hv2 with ⟨h, _⟩ | h
                  · exact ⟨_, _, _, h⟩
                  · obtain ⟨A2, c2, h⟩ := Kd.R_slice h
                    exact ⟨_, _, _, h⟩
                subst hv3
                have HZ2 := Aside0.mk ((HZ.out.of (W' := wr.drew) rfl).below hb2)
                have HP2 := Aside0.mk ((HP.out.of (W' := wr.drew) rfl).below hb2)
                have HB2 := Aside0.mk (below_step (below_drew1 HB.out) hb2)
                have HV2 := Aside0.mk hv2
                have HBB := Aside0.mk hb2
                clear hv2 hb2
                refine ⟨_, rfl, ?_⟩
                refine hK.out _ _ (⟨HP2.out.c, XT.out w2 HB2.out⟩) (fun hHeld => ?_)
                clear hK K
                refine norm_ (a' := ?_) ?_ ?_
                rotate_left
                · show Act.put _ (some 84) _ = _
                  simp only [Act.put, List.setIfInBounds_toArray, List.set_cons_zero, List.set_cons_succ]
                  rfl
                refine last_ (i := 12) (N := none) #[true, true, true, true, true, true, true, true, true, true, true, true, true, false] rfl rfl (by kernel_rfl) (by decide) (fun K hK => ?_)
                have fz := HZ2.out.f
                have cz := HZ2.out.c
                obtain ⟨W4, hW4⟩ : ∃ W4, W4 = put12 w2 (w.heap.size + 1) s2 (.slice A2 m2 c2) (.slice oA on oc) er2 aT := ⟨_, rfl⟩
                refine skip_ (w1 := W4) (by rfl) rfl (by first | (go_simp; done) | (go_simp; rw [hW4])) ?_
                refine hK.out _ _ ?_
                clear hK K
                refine pure_ (i := 13) (N := some 9) (v := ?_) (a' := ?_) #[true, true, true, true, true, true, true, true, true, true, true, true, true, true] rfl rfl (by kernel_rfl) (fun _ _ _ h => h) (Or.inl ⟨by rfl, ?_⟩) ?_ ?_
                rotate_left
                · intro w'
                  go_simp
                  try with_reducible rfl
                rotate_left
                · simp only [Act.put, List.setIfInBounds_toArray, List.set_cons_zero, List.set_cons_succ]
                  rfl
                refine done_ (by kernel_rfl) ?_
                have HG := put12_at (s := s2) (frv := .slice A2 m2 c2) (ov := .slice oA on oc) (er := er2) (at_ := aT) HZ2.out
                rw [← hW4] at HG
                have HB4 : Below w.heap.size w W4 := by rw [hW4]; exact put12_below HB2.out (by omega)
                have HW1 : w.heap.size ≤ wr.drew.heap.size := HB.out.size
                have HW3 : w.heap.size + 1 < wr.drew.heap.size := HZ.out.lt
                have HV4 : (Value.slice A2 m2 c2 = .slice A frs.length c ∧ frs2 = frs) ∨ Kd.R Kd.string 9 W4 w.heap.size (fun _ => True) (.slice A2 m2 c2) frs2 := by
                  rcases HV2.out with h | h
                  · exact .inl h
                  · rw [hW4]
                    exact .inr (Kd.R_lower (put12_R h HW3) HW1)
                clear hW4
                go_wp2
                refine bodyPost_ret (results_ct rfl _ _ (w.heap.size + 1) 74 _ (0, 0) _ rfl HG Tryd.underlying74 rfl (by kernel_rfl)) rfl ?_
                exact ⟨_, _, rfl, fun _ => rfl, HV4, HB4⟩
              · rw [e] at CALL
                have KEY := Aside0.mk CALL
                clear CALL
                go_wp2
                refine start_ (n := 14) (S := fun w' => PC w' w.heap.size s1 (.slice A frs.length c) (.slice oA on oc) ∧ w'.cell? ⟨bd.block, bd.off + (i + 1), none⟩ = some (.string t2)) (ds := [12]) #[false, false, false, false, false, false, false, false, false, false, false, false, false, false] (by kernel_rfl) rfl rfl (⟨(HP.out.of (W' := wr.drew) rfl).c, XT.out wr.drew (below_drew1 HB.out)⟩) (fun hHeld => ?_)
                refine take_ (i := 0) (N := some 73) (v := ?_) (a' := ?_) #[true, false, false, false, false, false, false, false, false, false, false, false, false, false] rfl rfl (by kernel_rfl) (fun _ _ _ h => h) (Or.inl ⟨by rfl, ?_⟩) hHeld ?_ ?_
                rotate_left
                · rintro w' ⟨⟨s0, s1_, s2_, s3, s4, s5, s6, s7, s8, s9, s10, s11⟩, s12⟩
                  go_simp
                  try with_reducible rfl
                rotate_left
                · simp only [Act.put, List.setIfInBounds_toArray, List.set_cons_zero, List.set_cons_succ]
                  rfl
                refine pure_ (i := 1) (N := some 74) (v := ?_) (a' := ?_) #[true, true, false, false, false, false, false, false, false, false, false, false, false, false] rfl rfl (by kernel_rfl) (fun _ _ _ h => h) (Or.inl ⟨by rfl, ?_⟩) ?_ ?_
                rotate_left
                · intro w'
                  go_simp
                  try with_reducible rfl
                rotate_left
                · simp only [Act.put, List.setIfInBounds_toArray, List.set_cons_zero, List.set_cons_succ]
                  rfl
                refine pure_ (i := 2) (N := some 75) (v := ?_) (a' := ?_) #[true, true, true, false, false, false, false, false, false, false, false, false, false, false] rfl rfl (by kernel_rfl) (fun _ _ _ h => h) (Or.inl ⟨by rfl, ?_⟩) ?_ ?_
                rotate_left
                · intro w'
                  go_simp
                  try with_reducible rfl
                rotate_left
                · simp only [Act.put, List.setIfInBounds_toArray, List.set_cons_zero, List.set_cons_succ]
                  rfl
                refine pure_ (i := 3) (N := some 76) (v := ?_) (a' := ?_) #[true, true, true, true, false, false, false, false, false, false, false, false, false, false] rfl rfl (by kernel_rfl) (fun _ _ _ h => h) (Or.inl ⟨by rfl, ?_⟩) ?_ ?_
                rotate_left
                · intro w'
                  go_simp
                  try with_reducible rfl
                rotate_left
                · simp only [Act.put, List.setIfInBounds_toArray, List.set_cons_zero, List.set_cons_succ]
                  rfl
                refine pure_ (i := 4) (N := some 77) (v := ?_) (a' := ?_) #[true, true, true, true, true, false, false, false, false, false, false, false, false, false] rfl rfl (by kernel_rfl) (fun _ _ _ h => h) (Or.inl ⟨by rfl, ?_⟩) ?_ ?_
                rotate_left
                · intro w'
                  go_simp
                  try with_reducible rfl
                rotate_left
                · simp only [Act.put, List.setIfInBounds_toArray, List.set_cons_zero, List.set_cons_succ]
                  rfl
                refine pure_ (i := 5) (N := some 78) (v := ?_) (a' := ?_) #[true, true, true, true, true, true, false, false, false, false, false, false, false, false] rfl rfl (by kernel_rfl) (fun _ _ _ h => h) (Or.inl ⟨by rfl, ?_⟩) ?_ ?_
                rotate_left
                · intro w'
                  go_simp
                  try with_reducible rfl
                rotate_left
                · simp only [Act.put, List.setIfInBounds_toArray, List.set_cons_zero, List.set_cons_succ]
                  rfl
                refine pure_ (i := 6) (N := some 79) (v := ?_) (a' := ?_) #[true, true, true, true, true, true, true, false, false, false, false, false, false, false] rfl rfl (by kernel_rfl) (fun _ _ _ h => h) (Or.inl ⟨by rfl, ?_⟩) ?_ ?_
                rotate_left
                · intro w'
                  go_simp
                  try with_reducible rfl
                rotate_left
                · simp only [Act.put, List.setIfInBounds_toArray, List.set_cons_zero, List.set_cons_succ]
                  rfl
                refine pure_ (i := 7) (N := some 80) (v := .pointer (some ⟨bd.block, bd.off + (i + 1), none⟩)) (a' := ?_) #[true, true, true, true, true, true, true, true, false, false, false, false, false, false] rfl rfl (by kernel_rfl) (fun _ _ _ h => h) (Or.inl ⟨by rfl, ?_⟩) ?_ ?_
                · intro w'
                  go_simp
                  simp only [i64_w, q3, q4, q5, and_self, if_true, hadd]
                rotate_left
                · simp only [Act.put, List.setIfInBounds_toArray, List.set_cons_zero, List.set_cons_succ]
                  rfl
                refine take_ (i := 8) (N := some 81) (v := ?_) (a' := ?_) #[true, true, true, true, true, true, true, true, true, false, false, false, false, false] rfl rfl (by kernel_rfl) (fun _ _ _ h => h) (Or.inl ⟨by rfl, ?_⟩) hHeld ?_ ?_
                rotate_left
                · rintro w' ⟨⟨s0, s1_, s2_, s3, s4, s5, s6, s7, s8, s9, s10, s11⟩, s12⟩
                  go_simp
                  try with_reducible rfl
                rotate_left
                · simp only [Act.put, List.setIfInBounds_toArray, List.set_cons_zero, List.set_cons_succ]
                  rfl
                refine pure_ (i := 9) (N := some 82) (v := ?_) (a' := ?_) #[true, true, true, true, true, true, true, true, true, true, false, false, false, false] rfl rfl (by kernel_rfl) (fun _ _ _ h => h) (Or.inl ⟨by rfl, ?_⟩) ?_ ?_
                rotate_left
                · intro w'
                  go_simp
                  try with_reducible rfl
                rotate_left
                · simp only [Act.put, List.setIfInBounds_toArray, List.set_cons_zero, List.set_cons_succ]
                  rfl
                refine pure_ (i := 10) (N := some 83) (v := ?_) (a' := ?_) #[true, true, true, true, true, true, true, true, true, true, true, false, false, false] rfl rfl (by kernel_rfl) (fun _ _ _ h => h) (Or.inl ⟨by rfl, ?_⟩) ?_ ?_
                rotate_left
                · intro w'
                  go_simp
                  try with_reducible rfl
                rotate_left
                · simp only [Act.put, List.setIfInBounds_toArray, List.set_cons_zero, List.set_cons_succ]
                  rfl
                refine one_ (i := 11) (N := some 84) #[true, true, true, true, true, true, true, true, true, true, true, true, false, false] rfl rfl (by kernel_rfl) (by decide) (fun K hK => ?_)
                refine goes_ Tryd.func42 (by kernel_rfl) rfl #[.agg #[.bool s1.q, .bool s1.x, .bool s1.a, .bool s1.i, .string ⟨#[]⟩, .int .u8 s1.en, .string s1.lo, .slice none 0 0, .slice A frs.length c, .slice oA on oc, .int .i64 0, .int .i64 0], .int .u8 102, .string t2, .slice Af l.length cf, .int .i64 (i : Int)] (by rfl) rfl rfl (by simp only [List.map_toArray, List.map_cons, List.map_nil]; rfl) ?_
                refine KEY.out.mono ?_
                rintro e w2 ⟨v2, rfl, hv2, hb2⟩
                obtain ⟨A2, m2, c2, hv3⟩ : ∃ A2 m2 c2, v2 = .slice A2 m2 c2 := by
                  rcases hv2 with ⟨h, _⟩ | h
                  · exact ⟨_, _, _, h⟩
                  · obtain ⟨A2, c2, h⟩ := Kd.R_slice h
                    exact ⟨_, _, _, h⟩
                subst hv3
                have HZ2 := Aside0.mk ((HZ.out.of (W' := wr.drew) rfl).below hb2)
                have HP2 := Aside0.mk ((HP.out.of (W' := wr.drew) rfl).below hb2)
                have HB2 := Aside0.mk (below_step (below_drew1 HB.out) hb2)
                have HV2 := Aside0.mk hv2
                have HBB := Aside0.mk hb2
                clear hv2 hb2
                refine ⟨_, rfl, ?_⟩
                refine hK.out _ _ (⟨HP2.out.c, XT.out w2 HB2.out⟩) (fun hHeld => ?_)
                clear hK K
                refine norm_ (a' := ?_) ?_ ?_
                rotate_left
                · show Act.put _ (some 84) _ = _
                  simp only [Act.put, List.setIfInBounds_toArray, List.set_cons_zero, List.set_cons_succ]
                  rfl
                refine last_ (i := 12) (N := none) #[true, true, true, true, true, true, true, true, true, true, true, true, true, false] rfl rfl (by kernel_rfl) (by decide) (fun K hK => ?_)
                have fz := HZ2.out.f
                have cz := HZ2.out.c
                obtain ⟨W4, hW4⟩ : ∃ W4, W4 = put12 w2 (w.heap.size + 1) s2 (.slice A2 m2 c2) (.slice oA on oc) er2 aT := ⟨_, rfl⟩
                refine skip_ (w1 := W4) (by rfl) rfl (by first | (go_simp; done) | (go_simp; rw [hW4])) ?_
                refine hK.out _ _ ?_
                clear hK K
                refine pure_ (i := 13) (N := some 9) (v := ?_) (a' := ?_) #[true, true, true, true, true, true, true, true, true, true, true, true, true, true] rfl rfl (by kernel_rfl) (fun _ _ _ h => h) (Or.inl ⟨by rfl, ?_⟩) ?_ ?_
                rotate_left
                · intro w'
                  go_simp
                  try with_reducible rfl
                rotate_left
                · simp only [Act.put, List.setIfInBounds_toArray, List.set_cons_zero, List.set_cons_succ]
                  rfl
                refine done_ (by kernel_rfl) ?_
                have HG := put12_at (s := s2) (frv := .slice A2 m2 c2) (ov := .slice oA on oc) (er := er2) (at_ := aT) HZ2.out
                rw [← hW4] at HG
                have HB4 : Below w.heap.size w W4 := by rw [hW4]; exact put12_below HB2.out (by omega)
                have HW1 : w.heap.size ≤ wr.drew.heap.size := HB.out.size
                have HW3 : w.heap.size + 1 < wr.drew.heap.size := HZ.out.lt
                have HV4 : (Value.slice A2 m2 c2 = .slice A frs.length c ∧ frs2 = frs) ∨ Kd.R Kd.string 9 W4 w.heap.size (fun _ => True) (.slice A2 m2 c2) frs2 := by
                  rcases HV2.out with h | h
                  · exact .inl h
                  · rw [hW4]
                    exact .inr (Kd.R_lower (put12_R h HW3) HW1)
                clear hW4
                go_wp2
                refine bodyPost_ret (results_ct rfl _ _ (w.heap.size + 1) 74 _ (0, 0) _ rfl HG Tryd.underlying74 rfl (by kernel_rfl)) rfl ?_
                exact ⟨_, _, rfl, fun _ => rfl, HV4, HB4⟩
              · rw [e] at CALL
                have KEY := Aside0.mk CALL
                clear CALL
                go_wp2
                refine start_ (n := 14) (S := fun w' => PC w' w.heap.size s1 (.slice A frs.length c) (.slice oA on oc) ∧ w'.cell? ⟨bd.block, bd.off + (i + 1), none⟩ = some (.string t2)) (ds := [12]) #[false, false, false, false, false, false, false, false, false, false, false, false, false, false] (by kernel_rfl) rfl rfl (⟨(HP.out.of (W' := wr.drew) rfl).c, XT.out wr.drew (below_drew1 HB.out)⟩) (fun hHeld => ?_)
                refine take_ (i := 0) (N := some 73) (v := ?_) (a' := ?_) #[true, false, false, false, false, false, false, false, false, false, false, false, false, false] rfl rfl (by kernel_rfl) (fun _ _ _ h => h) (Or.inl ⟨by rfl, ?_⟩) hHeld ?_ ?_
                rotate_left
                · rintro w' ⟨⟨s0, s1_, s2_, s3, s4, s5, s6, s7, s8, s9, s10, s11⟩, s12⟩
                  go_simp
                  try with_reducible rfl
                rotate_left
                · simp only [Act.put, List.setIfInBounds_toArray, List.set_cons_zero, List.set_cons_succ]
                  rfl
                refine pure_ (i := 1) (N := some 74) (v := ?_) (a' := ?_) #[true, true, false, false, false, false, false, false, false, false, false, false, false, false] rfl rfl (by kernel_rfl) (fun _ _ _ h => h) (Or.inl ⟨by rfl, ?_⟩) ?_ ?_
                rotate_left
                · intro w'
                  go_simp
                  try with_reducible rfl
                rotate_left
                · simp only [Act.put, List.setIfInBounds_toArray, List.set_cons_zero, List.set_cons_succ]
                  rfl
                refine pure_ (i := 2) (N := some 75) (v := ?_) (a' := ?_) #[true, true, true, false, false, false, false, false, false, false, false, false, false, false] rfl rfl (by kernel_rfl) (fun _ _ _ h => h) (Or.inl ⟨by rfl, ?_⟩) ?_ ?_
                rotate_left
                · intro w'
                  go_simp
                  try with_reducible rfl
                rotate_left
                · simp only [Act.put, List.setIfInBounds_toArray, List.set_cons_zero, List.set_cons_succ]
                  rfl
                refine pure_ (i := 3) (N := some 76) (v := ?_) (a' := ?_) #[true, true, true, true, false, false, false, false, false, false, false, false, false, false] rfl rfl (by kernel_rfl) (fun _ _ _ h => h) (Or.inl ⟨by rfl, ?_⟩) ?_ ?_
                rotate_left
                · intro w'
                  go_simp
                  try with_reducible rfl
                rotate_left
                · simp only [Act.put, List.setIfInBounds_toArray, List.set_cons_zero, List.set_cons_succ]
                  rfl
                refine pure_ (i := 4) (N := some 77) (v := ?_) (a' := ?_) #[true, true, true, true, true, false, false, false, false, false, false, false, false, false] rfl rfl (by kernel_rfl) (fun _ _ _ h => h) (Or.inl ⟨by rfl, ?_⟩) ?_ ?_
                rotate_left
                · intro w'
                  go_simp
                  try with_reducible rfl
                rotate_left
                · simp only [Act.put, List.setIfInBounds_toArray, List.set_cons_zero, List.set_cons_succ]
                  rfl
                refine pure_ (i := 5) (N := some 78) (v := ?_) (a' := ?_) #[true, true, true, true, true, true, false, false, false, false, false, false, false, false] rfl rfl (by kernel_rfl) (fun _ _ _ h => h) (Or.inl ⟨by rfl, ?_⟩) ?_ ?_
                rotate_left
                · intro w'
                  go_simp
                  try with_reducible rfl
                rotate_left
                · simp only [Act.put, List.setIfInBounds_toArray, List.set_cons_zero, List.set_cons_succ]
                  rfl
                refine pure_ (i := 6) (N := some 79) (v := ?_) (a' := ?_) #[true, true, true, true, true, true, true, false, false, false, false, false, false, false] rfl rfl (by kernel_rfl) (fun _ _ _ h => h) (Or.inl ⟨by rfl, ?_⟩) ?_ ?_
                rotate_left
                · intro w'
                  go_simp
                  try with_reducible rfl
                rotate_left
                · simp only [Act.put, List.setIfInBounds_toArray, List.set_cons_zero, List.set_cons_succ]
                  rfl
                refine pure_ (i := 7) (N := some 80) (v := .pointer (some ⟨bd.block, bd.off + (i + 1), none⟩)) (a' := ?_) #[true, true, true, true, true, true, true, true, false, false, false, false, false, false] rfl rfl (by kernel_rfl) (fun _ _ _ h => h) (Or.inl ⟨by rfl, ?_⟩) ?_ ?_
                · intro w'
                  go_simp
                  simp only [i64_w, q3, q4, q5, and_self, if_true, hadd]
                rotate_left
                · simp only [Act.put, List.setIfInBounds_toArray, List.set_cons_zero, List.set_cons_succ]
                  rfl
                refine take_ (i := 8) (N := some 81) (v := ?_) (a' := ?_) #[true, true, true, true, true, true, true, true, true, false, false, false, false, false] rfl rfl (by kernel_rfl) (fun _ _ _ h => h) (Or.inl ⟨by rfl, ?_⟩) hHeld ?_ ?_
                rotate_left
                · rintro w' ⟨⟨s0, s1_, s2_, s3, s4, s5, s6, s7, s8, s9, s10, s11⟩, s12⟩
                  go_simp
                  try with_reducible rfl
                rotate_left
                · simp only [Act.put, List.setIfInBounds_toArray, List.set_cons_zero, List.set_cons_succ]
                  rfl
                refine pure_ (i := 9) (N := some 82) (v := ?_) (a' := ?_) #[true, true, true, true, true, true, true, true, true, true, false, false, false, false] rfl rfl (by kernel_rfl) (fun _ _ _ h => h) (Or.inl ⟨by rfl, ?_⟩) ?_ ?_
                rotate_left
                · intro w'
                  go_simp
                  try with_reducible rfl
                rotate_left
                · simp only [Act.put, List.setIfInBounds_toArray, List.set_cons_zero, List.set_cons_succ]
                  rfl
                refine pure_ (i := 10) (N := some 83) (v := ?_) (a' := ?_) #[true, true, true, true, true, true, true, true, true, true, true, false, false, false] rfl rfl (by kernel_rfl) (fun _ _ _ h => h) (Or.inl ⟨by rfl, ?_⟩) ?_ ?_
                rotate_left
                · intro w'
                  go_simp
                  try with_reducible rfl
                rotate_left
                · simp only [Act.put, List.setIfInBounds_toArray, List.set_cons_zero, List.set_cons_succ]
                  rfl
                refine one_ (i := 11) (N := some 84) #[true, true, true, true, true, true, true, true, true, true, true, true, false, false] rfl rfl (by kernel_rfl) (by decide) (fun K hK => ?_)
                refine goes_ Tryd.func42 (by kernel_rfl) rfl #[.agg #[.bool s1.q, .bool s1.x, .bool s1.a, .bool s1.i, .string ⟨#[]⟩, .int .u8 s1.en, .string s1.lo, .slice none 0 0, .slice A frs.length c, .slice oA on oc, .int .i64 0, .int .i64 0], .int .u8 99, .string t2, .slice Af l.length cf, .int .i64 (i : Int)] (by rfl) rfl rfl (by simp only [List.map_toArray, List.map_cons, List.map_nil]; rfl) ?_
                refine KEY.out.mono ?_
                rintro e w2 ⟨v2, rfl, hv2, hb2⟩
                obtain ⟨A2, m2, c2, hv3⟩ : ∃ A2 m2 c2, v2 = .slice A2 m2 c2 := by
                  rcases hv2 with ⟨h, _⟩ | h
                  · exact ⟨_, _, _, h⟩
                  · obtain ⟨A2, c2, h⟩ := Kd.R_slice h
                    exact ⟨_, _, _, h⟩
                subst hv3
                have HZ2 := Aside0.mk ((HZ.out.of (W' := wr.drew) rfl).below hb2)
                have HP2 := Aside0.mk ((HP.out.of (W' := wr.drew) rfl).below hb2)
                have HB2 := Aside0.mk (below_step (below_drew1 HB.out) hb2)
                have HV2 := Aside0.mk hv2
                have HBB := Aside0.mk hb2
                clear hv2 hb2
                refine ⟨_, rfl, ?_⟩
                refine hK.out _ _ (⟨HP2.out.c, XT.out w2 HB2.out⟩) (fun hHeld => ?_)
                clear hK K
                refine norm_ (a' := ?_) ?_ ?_
                rotate_left
                · show Act.put _ (some 84) _ = _
                  simp only [Act.put, List.setIfInBounds_toArray, List.set_cons_zero, List.set_cons_succ]
                  rfl
                refine last_ (i := 12) (N := none) #[true, true, true, true, true, true, true, true, true, true, true, true, true, false] rfl rfl (by kernel_rfl) (by decide) (fun K hK => ?_)
                have fz := HZ2.out.f
                have cz := HZ2.out.c
                obtain ⟨W4, hW4⟩ : ∃ W4, W4 = put12 w2 (w.heap.size + 1) s2 (.slice A2 m2 c2) (.slice oA on oc) er2 aT := ⟨_, rfl⟩
                refine skip_ (w1 := W4) (by rfl) rfl (by first | (go_simp; done) | (go_simp; rw [hW4])) ?_
                refine hK.out _ _ ?_
                clear hK K
                refine pure_ (i := 13) (N := some 9) (v := ?_) (a' := ?_) #[true, true, true, true, true, true, true, true, true, true, true, true, true, true] rfl rfl (by kernel_rfl) (fun _ _ _ h => h) (Or.inl ⟨by rfl, ?_⟩) ?_ ?_
                rotate_left
                · intro w'
                  go_simp
                  try with_reducible rfl
                rotate_left
                · simp only [Act.put, List.setIfInBounds_toArray, List.set_cons_zero, List.set_cons_succ]
                  rfl
                refine done_ (by kernel_rfl) ?_
                have HG := put12_at (s := s2) (frv := .slice A2 m2 c2) (ov := .slice oA on oc) (er := er2) (at_ := aT) HZ2.out
                rw [← hW4] at HG
                have HB4 : Below w.heap.size w W4 := by rw [hW4]; exact put12_below HB2.out (by omega)
                have HW1 : w.heap.size ≤ wr.drew.heap.size := HB.out.size
                have HW3 : w.heap.size + 1 < wr.drew.heap.size := HZ.out.lt
                have HV4 : (Value.slice A2 m2 c2 = .slice A frs.length c ∧ frs2 = frs) ∨ Kd.R Kd.string 9 W4 w.heap.size (fun _ => True) (.slice A2 m2 c2) frs2 := by
                  rcases HV2.out with h | h
                  · exact .inl h
                  · rw [hW4]
                    exact .inr (Kd.R_lower (put12_R h HW3) HW1)
                clear hW4
                go_wp2
                refine bodyPost_ret (results_ct rfl _ _ (w.heap.size + 1) 74 _ (0, 0) _ rfl HG Tryd.underlying74 rfl (by kernel_rfl)) rfl ?_
                exact ⟨_, _, rfl, fun _ => rfl, HV4, HB4⟩
              · rw [e] at CALL
                have KEY := Aside0.mk CALL
                clear CALL
                go_wp2
                refine start_ (n := 14) (S := fun w' => PC w' w.heap.size s1 (.slice A frs.length c) (.slice oA on oc) ∧ w'.cell? ⟨bd.block, bd.off + (i + 1), none⟩ = some (.string t2)) (ds := [12]) #[false, false, false, false, false, false, false, false, false, false, false, false, false, false] (by kernel_rfl) rfl rfl (⟨(HP.out.of (W' := wr.drew) rfl).c, XT.out wr.drew (below_drew1 HB.out)⟩) (fun hHeld => ?_)
                refine take_ (i := 0) (N := some 73) (v := ?_) (a' := ?_) #[true, false, false, false, false, false, false, false, false, false, false, false, false, false] rfl rfl (by kernel_rfl) (fun _ _ _ h => h) (Or.inl ⟨by rfl, ?_⟩) hHeld ?_ ?_
                rotate_left
                · rintro w' ⟨⟨s0, s1_, s2_, s3, s4, s5, s6, s7, s8, s9, s10, s11⟩, s12⟩
                  go_simp
                  try with_reducible rfl
                rotate_left
                · simp only [Act.put, List.setIfInBounds_toArray, List.set_cons_zero, List.set_cons_succ]
                  rfl
                refine pure_ (i := 1) (N := some 74) (v := ?_) (a' := ?_) #[true, true, false, false, false, false, false, false, false, false, false, false, false, false] rfl rfl (by kernel_rfl) (fun _ _ _ h => h) (Or.inl ⟨by rfl, ?_⟩) ?_ ?_
                rotate_left
                · intro w'
                  go_simp
                  try with_reducible rfl
                rotate_left
                · simp only [Act.put, List.setIfInBounds_toArray, List.set_cons_zero, List.set_cons_succ]
                  rfl
                refine pure_ (i := 2) (N := some 75) (v := ?_) (a' := ?_) #[true, true, true, false, false, false, false, false, false, false, false, false, false, false] rfl rfl (by kernel_rfl) (fun _ _ _ h => h) (Or.inl ⟨by rfl, ?_⟩) ?_ ?_
                rotate_left
                · intro w'
                  go_simp
                  try with_reducible rfl
                rotate_left
                · simp only [Act.put, List.setIfInBounds_toArray, List.set_cons_zero, List.set_cons_succ]
                  rfl
                refine pure_ (i := 3) (N := some 76) (v := ?_) (a' := ?_) #[true, true, true, true, false, false, false, false, false, false, false, false, false, false] rfl rfl (by kernel_rfl) (fun _ _ _ h => h) (Or.inl ⟨by rfl, ?_⟩) ?_ ?_
                rotate_left
                · intro w'
                  go_simp
                  try with_reducible rfl
                rotate_left
                · simp only [Act.put, List.setIfInBounds_toArray, List.set_cons_zero, List.set_cons_succ]
                  rfl
                refine pure_ (i := 4) (N := some 77) (v := ?_) (a' := ?_) #[true, true, true, true, true, false, false, false, false, false, false, false, false, false] rfl rfl (by kernel_rfl) (fun _ _ _ h => h) (Or.inl ⟨by rfl, ?_⟩) ?_ ?_
                rotate_left
                · intro w'
                  go_simp
                  try with_reducible rfl
                rotate_left
                · simp only [Act.put, List.setIfInBounds_toArray, List.set_cons_zero, List.set_cons_succ]
                  rfl
                refine pure_ (i := 5) (N := some 78) (v := ?_) (a' := ?_) #[true, true, true, true, true, true, false, false, false, false, false, false, false, false] rfl rfl (by kernel_rfl) (fun _ _ _ h => h) (Or.inl ⟨by rfl, ?_⟩) ?_ ?_
                rotate_left
                · intro w'
                  go_simp
                  try with_reducible rfl
                rotate_left
                · simp only [Act.put, List.setIfInBounds_toArray, List.set_cons_zero, List.set_cons_succ]
                  rfl
                refine pure_ (i := 6) (N := some 79) (v := ?_) (a' := ?_) #[true, true, true, true, true, true, true, false, false, false, false, false, false, false] rfl rfl (by kernel_rfl) (fun _ _ _ h => h) (Or.inl ⟨by rfl, ?_⟩) ?_ ?_
                rotate_left
                · intro w'
                  go_simp
                  try with_reducible rfl
                rotate_left
                · simp only [Act.put, List.setIfInBounds_toArray, List.set_cons_zero, List.set_cons_succ]
                  rfl
                refine pure_ (i := 7) (N := some 80) (v := .pointer (some ⟨bd.block, bd.off + (i + 1), none⟩)) (a' := ?_) #[true, true, true, true, true, true, true, true, false, false, false, false, false, false] rfl rfl (by kernel_rfl) (fun _ _ _ h => h) (Or.inl ⟨by rfl, ?_⟩) ?_ ?_
                · intro w'
                  go_simp
                  simp only [i64_w, q3, q4, q5, and_self, if_true, hadd]
                rotate_left
                · simp only [Act.put, List.setIfInBounds_toArray, List.set_cons_zero, List.set_cons_succ]
                  rfl
                refine take_ (i := 8) (N := some 81) (v := ?_) (a' := ?_) #[true, true, true, true, true, true, true, true, true, false, false, false, false, false] rfl rfl (by kernel_rfl) (fun _ _ _ h => h) (Or.inl ⟨by rfl, ?_⟩) hHeld ?_ ?_
                rotate_left
                · rintro w' ⟨⟨s0, s1_, s2_, s3, s4, s5, s6, s7, s8, s9, s10, s11⟩, s12⟩
                  go_simp
                  try with_reducible rfl
                rotate_left
                · simp only [Act.put, List.setIfInBounds_toArray, List.set_cons_zero, List.set_cons_succ]
                  rfl
                refine pure_ (i := 9) (N := some 82) (v := ?_) (a' := ?_) #[true, true, true, true, true, true, true, true, true, true, false, false, false, false] rfl rfl (by kernel_rfl) (fun _ _ _ h => h) (Or.inl ⟨by rfl, ?_⟩) ?_ ?_
                rotate_left
                · intro w'
                  go_simp
                  try with_reducible rfl
                rotate_left
                · simp only [Act.put, List.setIfInBounds_toArray, List.set_cons_zero, List.set_cons_succ]
                  rfl
                refine pure_ (i := 10) (N := some 83) (v := ?_) (a' := ?_) #[true, true, true, true, true, true, true, true, true, true, true, false, false, false] rfl rfl (by kernel_rfl) (fun _ _ _ h => h) (Or.inl ⟨by rfl, ?_⟩) ?_ ?_
                rotate_left
                · intro w'
                  go_simp
                  try with_reducible rfl
                rotate_left
                · simp only [Act.put, List.setIfInBounds_toArray, List.set_cons_zero, List.set_cons_succ]
                  rfl
                refine one_ (i := 11) (N := some 84) #[true, true, true, true, true, true, true, true, true, true, true, true, false, false] rfl rfl (by kernel_rfl) (by decide) (fun K hK => ?_)
                refine goes_ Tryd.func42 (by kernel_rfl) rfl #[.agg #[.bool s1.q, .bool s1.x, .bool s1.a, .bool s1.i, .string ⟨#[]⟩, .int .u8 s1.en, .string s1.lo, .slice none 0 0, .slice A frs.length c, .slice oA on oc, .int .i64 0, .int .i64 0], .int .u8 76, .string t2, .slice Af l.length cf, .int .i64 (i : Int)] (by rfl) rfl rfl (by simp only [List.map_toArray, List.map_cons, List.map_nil]; rfl) ?_
                refine KEY.out.mono ?_
                rintro e w2 ⟨v2, rfl, hv2, hb2⟩
                obtain ⟨A2, m2, c2, hv3⟩ : ∃ A2 m2 c2, v2 = .slice A2 m2 c2 := by
                  rcases hv2 with ⟨h, _⟩ | h
                  · exact ⟨_, _, _, h⟩
                  · obtain ⟨A2, c2, h⟩ := Kd.R_slice h
                    exact ⟨_, _, _, h⟩
                subst hv3
                have HZ2 := Aside0.mk ((HZ.out.of (W' := wr.drew) rfl).below hb2)
                have HP2 := Aside0.mk ((HP.out.of (W' := wr.drew) rfl).below hb2)
                have HB2 := Aside0.mk (below_step (below_drew1 HB.out) hb2)
                have HV2 := Aside0.mk hv2
                have HBB := Aside0.mk hb2
                clear hv2 hb2
                refine ⟨_, rfl, ?_⟩
                refine hK.out _ _ (⟨HP2.out.c, XT.out w2 HB2.out⟩) (fun hHeld => ?_)
                clear hK K
                refine norm_ (a' := ?_) ?_ ?_
                rotate_left
                · show Act.put _ (some 84) _ = _
                  simp only [Act.put, List.setIfInBounds_toArray, List.set_cons_zero, List.set_cons_succ]
                  rfl
                refine last_ (i := 12) (N := none) #[true, true, true, true, true, true, true, true, true, true, true, true, true, false] rfl rfl (by kernel_rfl) (by decide) (fun K hK => ?_)
                have fz := HZ2.out.f
                have cz := HZ2.out.c
                obtain ⟨W4, hW4⟩ : ∃ W4, W4 = put12 w2 (w.heap.size + 1) s2 (.slice A2 m2 c2) (.slice oA on oc) er2 aT := ⟨_, rfl⟩
                refine skip_ (w1 := W4) (by rfl) rfl (by first | (go_simp; done) | (go_simp; rw [hW4])) ?_
                refine hK.out _ _ ?_
                clear hK K
                refine pure_ (i := 13) (N := some 9) (v := ?_) (a' := ?_) #[true, true, true, true, true, true, true, true, true, true, true, true, true, true] rfl rfl (by kernel_rfl) (fun _ _ _ h => h) (Or.inl ⟨by rfl, ?_⟩) ?_ ?_
                rotate_left
                · intro w'
                  go_simp
                  try with_reducible rfl
                rotate_left
                · simp only [Act.put, List.setIfInBounds_toArray, List.set_cons_zero, List.set_cons_succ]
                  rfl
                refine done_ (by kernel_rfl) ?_
                have HG := put12_at (s := s2) (frv := .slice A2 m2 c2) (ov := .slice oA on oc) (er := er2) (at_ := aT) HZ2.out
                rw [← hW4] at HG
                have HB4 : Below w.heap.size w W4 := by rw [hW4]; exact put12_below HB2.out (by omega)
                have HW1 : w.heap.size ≤ wr.drew.heap.size := HB.out.size
                have HW3 : w.heap.size + 1 < wr.drew.heap.size := HZ.out.lt
                have HV4 : (Value.slice A2 m2 c2 = .slice A frs.length c ∧ frs2 = frs) ∨ Kd.R Kd.string 9 W4 w.heap.size (fun _ => True) (.slice A2 m2 c2) frs2 := by
                  rcases HV2.out with h | h
                  · exact .inl h
                  · rw [hW4]
                    exact .inr (Kd.R_lower (put12_R h HW3) HW1)
                clear hW4
                go_wp2
                refine bodyPost_ret (results_ct rfl _ _ (w.heap.size + 1) 74 _ (0, 0) _ rfl HG Tryd.underlying74 rfl (by kernel_rfl)) rfl ?_
                exact ⟨_, _, rfl, fun _ => rfl, HV4, HB4⟩
        · rw [if_neg eW] at H
          have H2 := H
          cases H2
          clear H
          have nW : (bt z k == 101) = false ∧ (bt z k == 102) = false ∧ (bt z k == 99) = false ∧ (bt z k == 76) = false := ⟨beq_eq_false_iff_ne.2 (fun q => eW (.inl q)), beq_eq_false_iff_ne.2 (fun q => eW (.inr (.inl q))), beq_eq_false_iff_ne.2 (fun q => eW (.inr (.inr (.inl q)))), beq_eq_false_iff_ne.2 (fun q => eW (.inr (.inr (.inr q))))⟩
          clear eW
          have HP7 := (HP.out.set10 70).set11 (i : Int)
          have HZ7 := (HZ.out.far w.heap.size 10 (Nat.succ_ne_self _) (.int .i64 70)).far w.heap.size 11 (Nat.succ_ne_self _) (.int .i64 (i : Int))
          have HB7 := (HB.out.setCell (p := ⟨w.heap.size, 10, none⟩) (Nat.le_refl _) (.int .i64 70)).setCell (p := ⟨w.heap.size, 11, none⟩) (Nat.le_refl _) (.int .i64 (i : Int))
          have haT := HAT.out
          rw [if_neg (by decide)] at haT
          subst haT
          go_wp2
          refine bodyPost_ret (results_ct rfl _ _ (w.heap.size + 1) 74 _ (0, 0) _ rfl (put12_at (s := s') (frv := .slice A frs.length c) (ov := .slice oA on oc) (er := 70) (at_ := (i : Int)) HZ7) Tryd.underlying74 rfl (by kernel_rfl)) rfl ?_
          exact ⟨_, _, rfl, fun q => absurd q (by decide), .inl ⟨rfl, rfl⟩, put12_below HB7 (by omega)⟩
      · rw [if_neg hk] at H
        cases H
        have t1 : decide ((k : Int) < (z.size : Int)) = false := decide_eq_false (by omega)
        have haT := HAT.out
        rw [if_pos rfl] at haT
        subst haT
        go_wp2
        refine bodyPost_ret (results_ct rfl _ _ (w.heap.size + 1) 74 _ (0, 0) _ rfl (put12_at (s := s') (frv := .slice A frs.length c) (ov := .slice oA on oc) (er := 0) (at_ := 0) HZ.out) Tryd.underlying74 rfl (by kernel_rfl)) rfl ?_
        exact ⟨_, _, rfl, fun _ => rfl, .inl ⟨rfl, rfl⟩, put12_below HB.out (by omega)⟩
#print axioms refletters_calls
end Go.Proofs.YtceflmoiiiclcaaDoor.RF
