/- opts.Parse: it returns what the plain function 'opts_Parse.f' says. Conditions: arguments and files stand in memory. -/
import Derived.Test.YtceflmoiiiclcaaDoorExtParseF
import Derived.WalkMore
namespace Go.Proofs.YtceflmoiiiclcaaDoor.EC
open Go.RowKit Go.Proofs.YtceflmoiiiclcaaDoorW.PrintWords Go.Proofs.YtceflmoiiiclcaaDoorW.PrintLast Go.Proofs.YtceflmoiiiclcaaDoorW.PrintMore
set_option linter.unusedVariables false
set_option linter.unusedSimpArgs false

/-- The result's block. -/
def ResAt (W : World) (p : Nat) : Prop := W.heap[p]? = some (.cells #[.bool false, .bool false, .bool false, .bool false, .string ⟨#[]⟩, .int .u8 0, .string ⟨#[]⟩, .slice none 0 0] 24 (0, 0))
section
variable {W W' : World} {p : Nat}
theorem ResAt.c (h : ResAt W p) : W.cell? ⟨p, 0, none⟩ = some (.bool false) ∧ W.cell? ⟨p, 1, none⟩ = some (.bool false) ∧ W.cell? ⟨p, 2, none⟩ = some (.bool false) ∧ W.cell? ⟨p, 3, none⟩ = some (.bool false) ∧ W.cell? ⟨p, 4, none⟩ = some (.string ⟨#[]⟩) ∧ W.cell? ⟨p, 5, none⟩ = some (.int .u8 0) ∧ W.cell? ⟨p, 6, none⟩ = some (.string ⟨#[]⟩) ∧ W.cell? ⟨p, 7, none⟩ = some (.slice none 0 0) := by unfold ResAt at h; simp [World.cell?, h]
theorem ResAt.f (h : ResAt W p) (i : Nat) : W.frozen? ⟨p, i, none⟩ = false := by unfold ResAt at h; simp [World.frozen?, h]
theorem ResAt.of (h : ResAt W p) (hW : W'.heap[p]? = W.heap[p]?) : ResAt W' p := hW.trans h
end
/-- How Parse ends. -/
def PEnd (w : World) (r : PR) (e : Ending) (w' : World) : Prop :=
  ∃ v : Value, e = .returned (.tuple #[.agg #[.bool r.1, .bool r.2.1, .bool r.2.2.1, .bool r.2.2.2.1, .string r.2.2.2.2.1, .int .u8 r.2.2.2.2.2.1, .string r.2.2.2.2.2.2.1, v], .int .u16 r.2.2.2.2.2.2.2.2.1, .int .i64 r.2.2.2.2.2.2.2.2.2]) ∧ Kd.Q Kd.string 9 w' w.heap.size (fun _ => True) v r.2.2.2.2.2.2.2.1 ∧ Below w.heap.size w w'

set_option maxHeartbeats 4000000 in
set_option maxRecDepth 100000 in
theorem parse_long (w : World) (A0 : Option Addr) (c0 : Nat) (n0 : Nat) (fv : Value) (h : 40 < n0) :
    Calls Tryd.prog 14 #[.slice A0 n0 c0, fv] w (PEnd w (noJob 3 0)) := by
  have t1 : decide ((n0 : Int) > 40) = true := decide_eq_true (by omega)
  have t2 : decide ((40 : Int) < (n0 : Int)) = true := decide_eq_true (by omega)
  go_enter Tryd.func14, Tryd.ntmps14
  go_wp2
  go_step3
  go_wp2
  rw [Exit.noGoto_ret]
  refine bodyPost_ret (v := .tuple #[.agg #[.bool false, .bool false, .bool false, .bool false, .string ⟨#[]⟩, .int .u8 0, .string ⟨#[]⟩, .slice none 0 0], .int .u16 3, .int .i64 0]) (by simp [results, Tryd.results14, go_sem]) rfl ⟨_, rfl, Kd.Q_nil _ _ _ _ _, below_alloc (Below.refl _ _) _⟩

/-- Where the loop begins. -/
theorem parse_start (w : World) (A1 : Option Addr) (n1 c1 : Nat) (W1 : World) (h : W1 = ((w.alloc (.cells #[.bool false, .bool false, .bool false, .bool false, .string ⟨#[]⟩, .int .u8 0, .string ⟨#[]⟩, .slice none 0 0] 24)).alloc (.cells #[.bool false, .bool false, .bool false, .bool false, .string ⟨#[]⟩, .int .u8 1, .string ⟨#[]⟩, .slice none 0 0, .slice A1 n1 c1, .slice none 0 0] 49))) :
    RdAt W1 (w.heap.size + 1) st0 (.slice A1 n1 c1) (.slice none 0 0) ∧ ResAt W1 w.heap.size ∧ Below w.heap.size w W1 := by
  subst h
  have s1 : (w.alloc (.cells #[.bool false, .bool false, .bool false, .bool false, .string ⟨#[]⟩, .int .u8 0, .string ⟨#[]⟩, .slice none 0 0] 24)).heap.size = w.heap.size + 1 := Array.size_push _
  have at_ : ∀ (W : World) (o : Obj), (W.alloc o).heap[W.heap.size]? = some o := fun W o => by show (W.heap.push o)[W.heap.size]? = _; simp
  refine ⟨?_, ?_, below_alloc (below_alloc (Below.refl _ _) _) _⟩
  · unfold RdAt
    rw [← s1]
    exact at_ _ _
  · unfold ResAt
    rw [Below.heap_alloc _ _ _ (by omega)]
    exact at_ _ _

theorem R_ok {W : World} {base : Nat} {v : Value} {l : List ByteArray} {ok ok' : Nat → Prop} (h : Kd.R Kd.string 9 W base ok v l) (hok : ∀ k, v.ownBlock = some k → ok' k) : Kd.R Kd.string 9 W base ok' v l := ⟨hok, OwnRow.imp_ h.2 (fun _ _ hp => hp)⟩
/-- A row whose block is as it was. -/
theorem R_stay {W W' : World} {base : Nat} {v : Value} {l : List ByteArray} {ok : Nat → Prop} (h : Kd.R Kd.string 9 W base ok v l) (hk : ∀ k, v.ownBlock = some k → k < W.heap.size → W'.heap[k]? = W.heap[k]?) : Kd.R Kd.string 9 W' base ok v l :=
  R_ok (Kd.R_step (R_ok h (ok' := fun k => v.ownBlock = some k) (fun _ q => q)) hk) h.1
/-- The reader with its script and its files. -/
def Rd2At (W : World) (g : Nat) (s : St) (sc : ByteArray) (fl fv fr : Value) : Prop := W.heap[g]? = some (.cells #[.bool s.q, .bool s.x, .bool s.a, .bool s.i, .string sc, .int .u8 s.en, .string s.lo, fl, fv, fr] 49 (0, 0))
theorem RdAt.two {W : World} {g : Nat} {s : St} {fv fr : Value} (h : RdAt W g s fv fr) (sc : ByteArray) (fl : Value) : Rd2At ((W.setCell ⟨g, 4, none⟩ (.string sc)).setCell ⟨g, 7, none⟩ fl) g s sc fl fv fr :=
  Go.heap_setCell_same _ g 7 _ _ _ (Go.heap_setCell_same W g 4 _ _ _ h)
theorem Rd2At.c {W : World} {g : Nat} {s : St} {sc : ByteArray} {fl fv fr : Value} (h : Rd2At W g s sc fl fv fr) : W.cell? ⟨g, 0, none⟩ = some (.bool s.q) ∧ W.cell? ⟨g, 1, none⟩ = some (.bool s.x) ∧ W.cell? ⟨g, 2, none⟩ = some (.bool s.a) ∧ W.cell? ⟨g, 3, none⟩ = some (.bool s.i) ∧ W.cell? ⟨g, 4, none⟩ = some (.string sc) ∧ W.cell? ⟨g, 5, none⟩ = some (.int .u8 s.en) ∧ W.cell? ⟨g, 6, none⟩ = some (.string s.lo) ∧ W.cell? ⟨g, 7, none⟩ = some fl := by unfold Rd2At at h; simp [World.cell?, h]
theorem RdAt.four {W : World} {g : Nat} {s : St} {fv fr : Value} (h : RdAt W g s fv fr) (sc : ByteArray) : (W.setCell ⟨g, 4, none⟩ (.string sc)).cell? ⟨g, 7, none⟩ = some (.slice none 0 0) ∧ (W.setCell ⟨g, 4, none⟩ (.string sc)).frozen? ⟨g, 7, none⟩ = false := by
  have hh : Rd2At (W.setCell ⟨g, 4, none⟩ (.string sc)) g s sc (.slice none 0 0) fv fr := Go.heap_setCell_same W g 4 _ _ _ h
  refine ⟨hh.c.2.2.2.2.2.2.2, ?_⟩
  unfold Rd2At at hh
  simp [World.frozen?, hh]
theorem head_lt {W : World} {base : Nat} {v : Value} {l : List ByteArray} {ok : Nat → Prop} (h : Kd.R Kd.string 9 W base ok v l) : ∀ k, W.heap.size ≤ k → some k ≠ v.ownBlock := fun k hk e => absurd (Kd.R_lt h k e.symm) (Nat.not_lt.2 hk)
theorem Q_put {W : World} {base p i : Nat} {v u : Value} {l : List ByteArray} (h : Kd.Q Kd.string 9 W base (fun _ => True) v l) (hp : p < base) : Kd.Q Kd.string 9 (W.setCell ⟨p, i, none⟩ u) base (fun _ => True) v l :=
  Kd.Q_mono (Kd.Q_far (Kd.Q_bound h) (p := ⟨p, i, none⟩) (fun k hk => by have := hk.2.1; show k ≠ p; omega) u) (fun _ _ => trivial)

theorem Q_put8 {W : World} {p : Nat} {v u0 u1 u2 u3 u4 u5 u6 u7 : Value} {l : List ByteArray} {b : Nat} (h : Kd.Q Kd.string 9 W b (fun _ => True) v l) (hb : p < b) (hp : p ≤ b) :
    Kd.Q Kd.string 9 ((((((((W.setCell ⟨p, 0, none⟩ u0).setCell ⟨p, 1, none⟩ u1).setCell ⟨p, 2, none⟩ u2).setCell ⟨p, 3, none⟩ u3).setCell ⟨p, 4, none⟩ u4).setCell ⟨p, 5, none⟩ u5).setCell ⟨p, 6, none⟩ u6).setCell ⟨p, 7, none⟩ u7) p (fun _ => True) v l :=
  Kd.Q_lower (Q_put (Q_put (Q_put (Q_put (Q_put (Q_put (Q_put (Q_put h hb) hb) hb) hb) hb) hb) hb) hb) hp
set_option maxHeartbeats 16000000 in
set_option maxRecDepth 100000 in
theorem parse_all (w : World) (A0 : Option Addr) (c0 : Nat) (xs : List ByteArray) (A1 : Option Addr) (c1 : Nat) (l : List PX.S54) (r : PR) (hC0 : Kd.C Kd.string w A0 xs.length xs) (hC1 : Kd.C PX.k54 w A1 l.length l) (hc0 : xs.length ≤ c0) (hz : ∀ z ∈ xs, z.size < 4611686018427387904) (hl : l.length < 35184372088832) (hn : ¬ 40 < xs.length)
    (h : (parseL l (xs.length + 1) xs 0 st0 [] []).bind (endF xs.length) = some r) :
    Calls Tryd.prog 14 #[.slice A0 xs.length c0, .slice A1 l.length c1] w (PEnd w r) := by
  have t1 : decide ((xs.length : Int) > 40) = false := decide_eq_false (by omega)
  have t2 : decide ((40 : Int) < (xs.length : Int)) = false := decide_eq_false (by omega)
  have HC0 := Aside0.mk hC0
  have HC1 := Aside0.mk hC1
  have HZ := Aside0.mk hz
  have HL := Aside0.mk hl
  have HN := Aside0.mk hn
  have HCC := Aside0.mk hc0
  have HH := Aside0.mk h
  clear hC0 hC1 hz hl hn h hc0
  go_enter Tryd.func14, Tryd.ntmps14
  go_wp2
  go_step3
  go_wp2
  go_step3
  go_wp2
  obtain ⟨W1, hW1⟩ : ∃ W1, W1 = ((w.alloc (.cells #[.bool false, .bool false, .bool false, .bool false, .string ⟨#[]⟩, .int .u8 0, .string ⟨#[]⟩, .slice none 0 0] 24)).alloc (.cells #[.bool false, .bool false, .bool false, .bool false, .string ⟨#[]⟩, .int .u8 1, .string ⟨#[]⟩, .slice none 0 0, .slice A1 l.length c1, .slice none 0 0] 49)) := ⟨_, rfl⟩
  rw [← hW1]
  have hst := parse_start w A1 l.length c1 W1 hW1
  have HRD := Aside0.mk hst.1
  have HRS := Aside0.mk hst.2.1
  have HBW := Aside0.mk hst.2.2
  have HX0 := Aside0.mk (Kd.C_below HC0.out hst.2.2)
  have HX1 := Aside0.mk (Kd.C_below HC1.out hst.2.2)
  have HP := Aside0.mk (show w.heap.size + 1 = w.heap.size + 1 from rfl)
  clear hst hW1
  obtain ⟨g, hg⟩ : ∃ g, g = w.heap.size + 1 := ⟨_, rfl⟩
  rw [← hg] at HRD ⊢
  have HG := Aside0.mk hg
  clear hg HP
  go_loopg [8, 9] (xs.length + 1) (fun kq v8 v9 wr => ∃ (i : Nat) (s1 : St) (fr : Value) (frs os : List ByteArray), v9 = .int .i64 i ∧ Aside0 ((parseL l kq (xs.drop i) i s1 frs os).bind (endF xs.length) = some r) ∧ Aside0 (i ≤ xs.length) ∧ Aside0 (frs.length ≤ i) ∧ Aside0 (os.length ≤ i) ∧ Aside0 (RdAt wr g s1 (.slice A1 l.length c1) fr) ∧ Aside0 (Kd.R Kd.string 9 wr (g + 1) (fun k => some k ≠ v8.ownBlock) fr frs) ∧ Aside0 (Kd.R Kd.string 9 wr (g + 1) (fun _ => True) v8 os) ∧ Aside0 (Below g W1 wr))
  case atStart => exact ⟨0, st0, _, [], [], rfl, HH, ⟨Nat.zero_le _⟩, ⟨Nat.zero_le _⟩, ⟨Nat.zero_le _⟩, HRD, ⟨Kd.R_nil _ _ _ _ _⟩, ⟨Kd.R_nil _ _ _ _ _⟩, ⟨Below.refl _ _⟩⟩
  case round =>
    obtain ⟨i, s1, fr, frs, os, rfl, HF, HI, HFL, HOL, HD, HR, HO, HB⟩ := hrel
    obtain ⟨Ao, co, rfl⟩ := Kd.R_slice HO.out
    have HP := Aside0.mk (HRS.out.of (HB.out.block w.heap.size (by rw [HG.out]; omega)))
    have HBX := Aside0.mk (HBW.out.trans (HB.out.mono (show w.heap.size ≤ g by rw [HG.out]; omega)))
    cases gk with
    | zero => exact absurd HF.out (by simp [parseL])
    | succ k1 =>
      rcases hd : xs.drop i with _ | ⟨z, rest⟩
      · have hi : ¬ i < xs.length := fun q => by
          rw [List.drop_eq_getElem_cons q] at hd; cases hd
        have t3 : decide ((i : Int) < (xs.length : Int)) = false := decide_eq_false (by omega)
        have H := HF.out
        rw [hd] at H
        unfold parseL at H
        have HE0 : Aside0 (endF xs.length (.inr (s1, frs, os)) = some r) := ⟨H⟩
        clear H HF hd
        obtain ⟨Af, cf, rfl⟩ := Kd.R_slice HR.out
        have HPG : Aside0 (w.heap.size ≠ g) := ⟨by rw [HG.out]; omega⟩
        have HPL : Aside0 (w.heap.size < wr.heap.size) := ⟨by have h1 := HBX.out.size; have h2 := HD.out.lt; rw [HG.out] at h2; omega⟩
        have HBS : Aside0 (w.heap.size ≤ wr.heap.size) := ⟨HBX.out.size⟩
        have HNN : Aside0 (frs.length < 1000000 ∧ os.length < 1000000) := ⟨by have h1 := HFL.out; have h2 := HOL.out; have h3 := HI.out; have h4 := HN.out; omega⟩
        rcases hfr : frs with _ | ⟨f0, frs'⟩
        · rw [hfr] at HD HR HE0
          have c9 := HD.out.c9
          have t8 : ((([] : List ByteArray).length : Int) == 0) = true := rfl
          rcases hos : os with _ | ⟨o, os'⟩
          · rw [hos] at HE0 HO
            have hrr : r = noJob 1 (xs.length : Int) := (Option.some.inj HE0.out).symm
            subst hrr
            have HPX := HP
            have f0 := HPX.out.f 0
            have f1 := HPX.out.f 1
            have f2 := HPX.out.f 2
            have f3 := HPX.out.f 3
            have f4 := HPX.out.f 4
            have f5 := HPX.out.f 5
            have f6 := HPX.out.f 6
            have f7 := HPX.out.f 7
            obtain ⟨p0, p1, p2, p3, p4, p5, p6, p7⟩ := HPX.out.c
            go_wp2
            rw [Exit.noGoto_ret]
            refine bodyPost_ret (v := .tuple #[.agg #[.bool false, .bool false, .bool false, .bool false, .string ⟨#[]⟩, .int .u8 0, .string ⟨#[]⟩, .slice none 0 0], .int .u16 1, .int .i64 xs.length]) (by simp [results, Tryd.results14, go_sem, p0, p1, p2, p3, p4, p5, p6, p7]) rfl ⟨_, rfl, Kd.Q_nil _ _ _ _ _, ?_⟩
            exact ((((((((HBX.out).setCell (Nat.le_refl _) _).setCell (Nat.le_refl _) _).setCell (Nat.le_refl _) _).setCell (Nat.le_refl _) _).setCell (Nat.le_refl _) _).setCell (Nat.le_refl _) _).setCell (Nat.le_refl _) _).setCell (Nat.le_refl _) _
          · rw [hos] at HE0 HO HNN
            have HE_ : Aside0 (fin s1 [o] os' = some r) := ⟨HE0.out⟩
            obtain ⟨go, cgo, hgo, hgo2, hgo3, _⟩ := Kd.R_form HO.out (by simp)
            cases hgo
            have hco := (Kd.R_reads' HO.out).2.1
            simp only [List.length_cons] at hco
            have t9 : (((o :: os').length : Int) == 0) = false := beq_eq_false_iff_ne.2 (by simp only [List.length_cons]; omega)
            have q8 : ((1 : Int) ≤ (co : Int)) = True := eq_true (by omega)
            have q9 : ((1 : Int) ≤ (os'.length : Int) + 1) = True := eq_true (by omega)
            have HCO := Aside0.mk hco
            have HGO := Aside0.mk hgo2
            have HGO3 := Aside0.mk hgo3
            clear hco hgo2 hgo3
            obtain ⟨FV, hFV⟩ : ∃ FV : Option Addr, FV = (if co = 1 then some ⟨go, 0, none⟩ else some ⟨go, 1, none⟩) := ⟨_, rfl⟩
            have HFV := Aside0.mk hFV
            clear hFV
            have HQ0 : Aside0 (Kd.Q Kd.string 9 wr (g + 1) (fun _ => True) (.slice FV os'.length (co - 1)) os') := ⟨by
              have h1 := Kd.Q_drop (k := 1) (Kd.Q_of_R HO.out) (by simp)
              rw [HFV.out]
              have h2 : (if co = 1 then some (⟨go, 0, none⟩ : Addr) else (some (⟨go, 0, none⟩ : Addr)).map (·.add (1 * Kd.string.sz))) = (if co = 1 then some ⟨go, 0, none⟩ else some ⟨go, 1, none⟩) := rfl
              rw [h2] at h1
              exact h1⟩
            go_wp2
            refine start_ (n := 9) (S := fun w' => True) (ds := [7]) #[false, false, false, false, false, false, false, false, false] (by kernel_rfl) rfl rfl (trivial) (fun hHeld => ?_)
            have hdr := HD.out.of (W' := wr.drew) rfl
            have c9d := hdr.c9
            have f9d := hdr.f 9
            refine pure_ (i := 0) (N := some 84) (v := ?_) (a' := ?_) #[true, false, false, false, false, false, false, false, false] rfl rfl (by kernel_rfl) (fun _ _ _ h => h) (Or.inl ⟨by rfl, ?_⟩) ?_ ?_
            rotate_left
            · intro w'
              go_simp
              try with_reducible rfl
            rotate_left
            · simp only [Act.put, List.setIfInBounds_toArray, List.set_cons_zero, List.set_cons_succ]
              rfl
            refine pure_ (i := 1) (N := some 85) (v := ?_) (a' := ?_) #[true, true, false, false, false, false, false, false, false] rfl rfl (by kernel_rfl) (fun _ _ _ h => h) (Or.inl ⟨by rfl, ?_⟩) ?_ ?_
            rotate_left
            · intro w'
              go_simp
              try with_reducible rfl
            rotate_left
            · simp only [Act.put, List.setIfInBounds_toArray, List.set_cons_zero, List.set_cons_succ]
              rfl
            refine pure_ (i := 2) (N := some 86) (v := ?_) (a' := ?_) #[true, true, true, false, false, false, false, false, false] rfl rfl (by kernel_rfl) (fun _ _ _ h => h) (Or.inl ⟨by rfl, ?_⟩) ?_ ?_
            rotate_left
            · intro w'
              go_simp
              try with_reducible rfl
            rotate_left
            · simp only [Act.put, List.setIfInBounds_toArray, List.set_cons_zero, List.set_cons_succ]
              rfl
            refine pure_ (i := 3) (N := some 87) (v := ?_) (a' := ?_) #[true, true, true, true, false, false, false, false, false] rfl rfl (by kernel_rfl) (fun _ _ _ h => h) (Or.inl ⟨by rfl, ?_⟩) ?_ ?_
            rotate_left
            · intro w'
              go_simp
              try with_reducible rfl
            rotate_left
            · simp only [Act.put, List.setIfInBounds_toArray, List.set_cons_zero, List.set_cons_succ]
              rfl
            refine pure_ (i := 4) (N := some 88) (v := .slice FV os'.length (co - 1)) (a' := ?_) #[true, true, true, true, true, false, false, false, false] rfl rfl (by kernel_rfl) (fun _ _ _ h => h) (Or.inl ⟨by rfl, ?_⟩) ?_ ?_
            · intro w'
              go_simp
              rw [HFV.out]
              first | done | rfl | (split <;> rfl)
            rotate_left
            · simp only [Act.put, List.setIfInBounds_toArray, List.set_cons_zero, List.set_cons_succ]
              rfl
            refine pure_ (i := 5) (N := some 89) (v := ?_) (a' := ?_) #[true, true, true, true, true, true, false, false, false] rfl rfl (by kernel_rfl) (fun _ _ _ h => h) (Or.inl ⟨by rfl, ?_⟩) ?_ ?_
            rotate_left
            · intro w'
              go_simp
              try with_reducible rfl
            rotate_left
            · simp only [Act.put, List.setIfInBounds_toArray, List.set_cons_zero, List.set_cons_succ]
              rfl
            refine pure_ (i := 6) (N := some 90) (v := ?_) (a' := ?_) #[true, true, true, true, true, true, true, false, false] rfl rfl (by kernel_rfl) (fun _ _ _ h => h) (Or.inl ⟨by rfl, ?_⟩) ?_ ?_
            rotate_left
            · intro w'
              go_simp
              try with_reducible rfl
            rotate_left
            · simp only [Act.put, List.setIfInBounds_toArray, List.set_cons_zero, List.set_cons_succ]
              rfl
            refine last_ (i := 7) (N := none) #[true, true, true, true, true, true, true, true, false] rfl rfl (by kernel_rfl) (by decide) (fun K hK => ?_)
            obtain ⟨W2, hW2⟩ : ∃ W2, W2 = wr.drew.setCell ⟨g, 9, none⟩ (.slice (some ⟨go, 0, none⟩) 1 co) := ⟨_, rfl⟩
            have HW2 := Aside0.mk hW2
            clear hW2
            refine skip_ (w1 := W2) (by rfl) rfl (by go_simp; rw [HW2.out]; rfl) ?_
            refine hK.out _ _ ?_
            clear hK K
            refine pure_ (i := 8) (N := some 8) (v := ?_) (a' := ?_) #[true, true, true, true, true, true, true, true, true] rfl rfl (by kernel_rfl) (fun _ _ _ h => h) (Or.inl ⟨by rfl, ?_⟩) ?_ ?_
            rotate_left
            · intro w'
              go_simp
              try with_reducible rfl
            rotate_left
            · simp only [Act.put, List.setIfInBounds_toArray, List.set_cons_zero, List.set_cons_succ]
              rfl
            refine done_ (by kernel_rfl) ?_
            have HDt : Aside0 (RdAt W2 g s1 (.slice A1 l.length c1) (.slice (some ⟨go, 0, none⟩) 1 co)) := ⟨by rw [HW2.out]; exact hdr.set9 _⟩
            have HRt : Aside0 (Kd.R Kd.string 9 W2 (g + 1) (fun _ => True) (.slice (some ⟨go, 0, none⟩) 1 co) [o]) := ⟨by
              rw [HW2.out]
              exact R_at_set (Kd.R_drew (Kd.R_take (m := 1) HO.out (by simp))) _⟩
            have HQt : Aside0 (Kd.Q Kd.string 9 W2 (g + 1) (fun _ => True) (.slice FV os'.length (co - 1)) os') := ⟨by rw [HW2.out]; exact Q_put (Kd.Q_drew HQ0.out) (Nat.lt_succ_self g)⟩
            have HPt : Aside0 (ResAt W2 w.heap.size) := ⟨by rw [HW2.out]; exact HP.out.of (Below.heap_setCell _ ⟨g, 9, none⟩ _ _ HPG.out)⟩
            have HBt : Aside0 (Below w.heap.size w W2) := ⟨by rw [HW2.out]; exact (below_drew1 HBX.out).setCell (by rw [HG.out]; exact Nat.le_succ _) _⟩
            have HPL : Aside0 (w.heap.size < W2.heap.size) := ⟨by have h1 := HDt.out.lt; rw [HG.out] at h1; omega⟩
            have HBS : Aside0 (w.heap.size ≤ W2.heap.size) := ⟨Nat.le_of_lt HPL.out⟩
            have HL0 : Aside0 (0 < ([o] : List ByteArray).length) := ⟨by simp⟩
            have HL1 : Aside0 (([o] : List ByteArray).length < 1000000) := ⟨by simp⟩
            clear hdr c9d f9d
            have hfin := HE_.out
            unfold fin at hfin
            by_cases hj : (Lib.join (([o]).map (·.data.toList)) [10]).length ≤ 140737488355328
            · rw [if_pos hj] at hfin
              have hrr := (Option.some.inj hfin).symm
              subst hrr
              have HJ := Aside0.mk hj
              clear hfin hj
              have c9 := HDt.out.c9
              go_wp2_with (fail)
              refine (join_calls (W2) (g + 1) (fun _ => True) _ ([o]) HRt.out HL0.out HL1.out HJ.out).mono ?_
              rintro e w3 ⟨rfl, hb3⟩
              have HB3 := Aside0.mk hb3
              have HD3 := Aside0.mk (HDt.out.below hb3)
              have HP3 := Aside0.mk (HPt.out.of (hb3.block _ HPL.out))
              have HQ3 := Aside0.mk (Kd.Q_below HQt.out hb3)
              have g4 := HD3.out.c4
              have g7 := HD3.out.c7
              have h4 := HD3.out.f 4
              have h7 := HD3.out.f 7
              have g7s := (HD3.out.four (joinS ([o]))).1
              have h7s := (HD3.out.four (joinS ([o]))).2
              obtain ⟨k0, k1', k2, k3, k4, k5, k6, k7⟩ := (HD3.out.two (joinS ([o])) (.slice FV os'.length (co - 1))).c
              have HPX : Aside0 (ResAt ((w3.setCell ⟨g, 4, none⟩ (.string (joinS ([o])))).setCell ⟨g, 7, none⟩ (.slice FV os'.length (co - 1))) w.heap.size) := ⟨HP3.out.of ((Below.heap_setCell _ ⟨g, 7, none⟩ _ _ HPG.out).trans (Below.heap_setCell _ ⟨g, 4, none⟩ _ _ HPG.out))⟩
              have f0 := HPX.out.f 0
              have f1 := HPX.out.f 1
              have f2 := HPX.out.f 2
              have f3 := HPX.out.f 3
              have f4 := HPX.out.f 4
              have f5 := HPX.out.f 5
              have f6 := HPX.out.f 6
              have f7 := HPX.out.f 7
              obtain ⟨p0, p1, p2, p3, p4, p5, p6, p7⟩ := HPX.out.c
              clear hb3
              go_wp2
              rw [Exit.noGoto_ret]
              refine bodyPost_ret (v := .tuple #[.agg #[.bool s1.q, .bool s1.x, .bool s1.a, .bool s1.i, .string (joinS ([o])), .int .u8 s1.en, .string s1.lo, .slice FV os'.length (co - 1)], .int .u16 0, .int .i64 0]) (by simp [results, Tryd.results14, go_sem, p0, p1, p2, p3, p4, p5, p6, p7]) rfl ⟨_, rfl, ?_, ?_⟩
              · exact Q_put8 (Q_put (Q_put HQ3.out (Nat.lt_succ_self g)) (Nat.lt_succ_self g)) (by rw [HG.out]; omega) (by rw [HG.out]; omega)
              · exact ((((((((((HBt.out.trans (HB3.out.mono HBS.out)).setCell (by rw [HG.out]; exact Nat.le_succ _) _).setCell (by rw [HG.out]; exact Nat.le_succ _) _).setCell (Nat.le_refl _) _).setCell (Nat.le_refl _) _).setCell (Nat.le_refl _) _).setCell (Nat.le_refl _) _).setCell (Nat.le_refl _) _).setCell (Nat.le_refl _) _).setCell (Nat.le_refl _) _).setCell (Nat.le_refl _) _
            · rw [if_neg hj] at hfin
              cases hfin
        · have t8 : (((f0 :: frs').length : Int) == 0) = false := beq_eq_false_iff_ne.2 (by simp only [List.length_cons]; omega)
          rw [hfr] at HD HR HE0 HNN
          have HDt := HD
          have HRt := Aside0.mk (R_ok HR.out (ok' := fun _ => True) (fun _ _ => trivial))
          have HQt := Aside0.mk (Kd.Q_of_R HO.out)
          have HPt := HP
          have HBt := HBX
          have HE_ : Aside0 (fin s1 (f0 :: frs') os = some r) := ⟨HE0.out⟩
          have HL0 : Aside0 (0 < (f0 :: frs').length) := ⟨by simp⟩
          have HL1 := Aside0.mk HNN.out.1
          generalize hff : f0 :: frs' = ff at *
          clear hff hfr
          have hfin := HE_.out
          unfold fin at hfin
          by_cases hj : (Lib.join ((ff).map (·.data.toList)) [10]).length ≤ 140737488355328
          · rw [if_pos hj] at hfin
            have hrr := (Option.some.inj hfin).symm
            subst hrr
            have HJ := Aside0.mk hj
            clear hfin hj
            have c9 := HDt.out.c9
            go_wp2_with (fail)
            refine (join_calls wr (g + 1) (fun _ => True) _ (ff) HRt.out HL0.out HL1.out HJ.out).mono ?_
            rintro e w3 ⟨rfl, hb3⟩
            have HB3 := Aside0.mk hb3
            have HD3 := Aside0.mk (HDt.out.below hb3)
            have HP3 := Aside0.mk (HPt.out.of (hb3.block _ HPL.out))
            have HQ3 := Aside0.mk (Kd.Q_below HQt.out hb3)
            have g4 := HD3.out.c4
            have g7 := HD3.out.c7
            have h4 := HD3.out.f 4
            have h7 := HD3.out.f 7
            have g7s := (HD3.out.four (joinS (ff))).1
            have h7s := (HD3.out.four (joinS (ff))).2
            obtain ⟨k0, k1', k2, k3, k4, k5, k6, k7⟩ := (HD3.out.two (joinS (ff)) (.slice Ao os.length co)).c
            have HPX : Aside0 (ResAt ((w3.setCell ⟨g, 4, none⟩ (.string (joinS (ff)))).setCell ⟨g, 7, none⟩ (.slice Ao os.length co)) w.heap.size) := ⟨HP3.out.of ((Below.heap_setCell _ ⟨g, 7, none⟩ _ _ HPG.out).trans (Below.heap_setCell _ ⟨g, 4, none⟩ _ _ HPG.out))⟩
            have f0 := HPX.out.f 0
            have f1 := HPX.out.f 1
            have f2 := HPX.out.f 2
            have f3 := HPX.out.f 3
            have f4 := HPX.out.f 4
            have f5 := HPX.out.f 5
            have f6 := HPX.out.f 6
            have f7 := HPX.out.f 7
            obtain ⟨p0, p1, p2, p3, p4, p5, p6, p7⟩ := HPX.out.c
            clear hb3
            go_wp2
            rw [Exit.noGoto_ret]
            refine bodyPost_ret (v := .tuple #[.agg #[.bool s1.q, .bool s1.x, .bool s1.a, .bool s1.i, .string (joinS (ff)), .int .u8 s1.en, .string s1.lo, .slice Ao os.length co], .int .u16 0, .int .i64 0]) (by simp [results, Tryd.results14, go_sem, p0, p1, p2, p3, p4, p5, p6, p7]) rfl ⟨_, rfl, ?_, ?_⟩
            · exact Q_put8 (Q_put (Q_put HQ3.out (Nat.lt_succ_self g)) (Nat.lt_succ_self g)) (by rw [HG.out]; omega) (by rw [HG.out]; omega)
            · exact ((((((((((HBt.out.trans (HB3.out.mono HBS.out)).setCell (by rw [HG.out]; exact Nat.le_succ _) _).setCell (by rw [HG.out]; exact Nat.le_succ _) _).setCell (Nat.le_refl _) _).setCell (Nat.le_refl _) _).setCell (Nat.le_refl _) _).setCell (Nat.le_refl _) _).setCell (Nat.le_refl _) _).setCell (Nat.le_refl _) _).setCell (Nat.le_refl _) _).setCell (Nat.le_refl _) _
          · rw [if_neg hj] at hfin
            cases hfin
      · have hi : i < xs.length := by
          rcases Nat.lt_or_ge i xs.length with q | q
          · exact q
          · rw [List.drop_eq_nil_of_le q] at hd; cases hd
        have hd2 : xs.drop (i + 1) = rest := by
          rw [List.drop_eq_getElem_cons hi] at hd
          exact (List.cons.inj hd).2
        have hzi : xs.getD i ByteArray.empty = z := by
          rw [List.drop_eq_getElem_cons hi] at hd
          rw [List.getD_eq_getElem?_getD, List.getElem?_eq_getElem hi]
          exact (List.cons.inj hd).1
        obtain ⟨ad, cc, e, hcl, hk, hc⟩ := Kd.C_get (Kd.C_below HC0.out HBX.out) ByteArray.empty (i : Int) (by omega) (by omega)
        have hk2 : cc = [.string (xs.getD i ByteArray.empty)] := hk
        rw [hzi] at hk2
        subst hk2
        subst e
        have hx0 := hc 0 _ rfl
        have hx : wr.cell? (ad.add i) = some (.string z) := by rw [show (i : Int).toNat * Kd.string.sz + 0 = i from by show (i : Int).toNat * 1 + 0 = i; omega] at hx0; exact hx0
        clear hx0 hc hk hcl
        have t3 : decide ((i : Int) < (xs.length : Int)) = true := decide_eq_true (by omega)
        have q0 : (0 : Int) ≤ (i : Int) := by omega
        have q1 : (i : Int) < (xs.length : Int) := by omega
        have H := HF.out
        rw [hd] at H
        unfold parseL at H
        have H1 := Aside0.mk H
        clear HF H
        by_cases e1 : (z.toList == ([45, 45] : List UInt8)) = true
        · have H := H1.out
          rw [if_pos e1] at H
          have HE9 := Aside0.mk H
          clear H
          have hrl : (z :: rest).length = xs.length - i := by rw [← hd, List.length_drop]
          have HRL : Aside0 (rest.length = xs.length - (i + 1)) := ⟨by simp only [List.length_cons] at hrl; omega⟩
          have hw1 : wrap64 ((i : Int) + 1) = ((i + 1 : Nat) : Int) := by have h1 := HN.out; unfold wrap64; omega
          obtain ⟨i09, hi09, _, hsz9, _⟩ := info_parts PX.info9
          obtain ⟨A2, hA2⟩ : ∃ A2 : Option Addr, A2 = (if c0 = i + 1 then some ad else (some ad).map (·.add ((i + 1) * 1))) := ⟨_, rfl⟩
          have HC2 : Aside0 (Kd.C Kd.string wr A2 rest.length rest) := ⟨by
            have h4 := Kd.C_drop (Kd.C_below HC0.out HBX.out) (m := i + 1) (by omega) HCC.out
            rw [hd2] at h4
            rw [hA2]
            exact h4⟩
          have hcut : ∀ W : World, (Instr.slice 22 (.slice (some ad) xs.length c0) (some (.int .i64 (wrap64 ((i : Int) + 1)))) none none).run Tryd.prog W = .ok (.slice A2 rest.length (c0 - (i + 1))) W := fun W => by
            have h5 := cut_from (P := Tryd.prog) 22 9 .i64 Tryd.underlying22 hi09 1 hsz9 (some ad) xs.length c0 (wrap64 ((i : Int) + 1)) (by omega) (by omega) W
            rw [h5, hw1, hA2, HRL.out]
            rfl
          have HW1 := Aside0.mk hw1
          have HLT : Aside0 (g + 1 ≤ wr.heap.size) := ⟨HD.out.lt⟩
          have HBD : Aside0 ((os.length + rest.length) * 16 ≤ 140737488355328) := ⟨by have h1 := HOL.out; have h2 := HRL.out; have h3 := HN.out; omega⟩
          have HO2 := Aside0.mk (R_ok HO.out (ok' := fun k => some k ≠ fr.ownBlock) (fun k hk e => HR.out.1 k e.symm hk.symm))
          have HFS := Aside0.mk (head_lt HR.out)
          clear hA2 hi09 hsz9 hw1 hrl hd hd2 hzi
          go_wp2_with ((with_reducible refine gate_builtin (b := .append) (xs := #[.tmp 41, .tmp 45]) rfl ?_); at_builtin; refine Kd.R_append_rows Kd.string (Rr := Kd.string.K wr) (w0 := wr) (g + 1) rfl (.tmp 41) (.tmp 45) 22 9 (.string ⟨#[]⟩) 16 rfl Tryd.underlying22 PX.info9 rfl (by decide) (by decide) (.slice Ao os.length co) os rest A2 rest.length (c0 - (i + 1)) (fun k => some k ≠ fr.ownBlock) (fun _ => False) rfl rfl HO2.out HC2.out (fun _ _ h => h) (fun _ hk => hk.elim) HFS.out (Below.refl _ _) HLT.out HBD.out ?_; intro v1 w2 ho hb hg hat; refine Aside0.out ?_)
          refine ⟨?_⟩
          obtain ⟨os2, hos2⟩ : ∃ os2, os2 = os ++ rest := ⟨_, rfl⟩
          have hol2 : os2.length < 1000000 := by have h1 := HOL.out; have h2 := HRL.out; have h3 := HN.out; rw [hos2, List.length_append]; omega
          rw [← hos2] at ho HE9
          obtain ⟨Ao2, co2, rfl⟩ := Kd.R_slice ho
          have HE0 : Aside0 (endF xs.length (.inr (s1, frs, os2)) = some r) := ⟨HE9.out⟩
          have HD2 := Aside0.mk (HD.out.of (hb.block g (Nat.lt_succ_self g)))
          have HP2 := Aside0.mk (HP.out.of (hb.block w.heap.size (by rw [HG.out]; omega)))
          have HBX2 := Aside0.mk (HBX.out.trans (hb.mono (show w.heap.size ≤ g + 1 by rw [HG.out]; omega)))
          have HR2 : Aside0 (Kd.R Kd.string 9 w2 (g + 1) (fun _ => True) fr frs) := ⟨R_stay (R_ok HR.out (fun _ _ => trivial)) (fun k hk hlt => hg.block k hlt (HR.out.1 k hk))⟩
          have HO3 := Aside0.mk (R_ok ho (ok' := fun _ => True) (fun _ _ => trivial))
          have HNN2 : Aside0 (frs.length < 1000000 ∧ os2.length < 1000000) := ⟨by have h1 := HFL.out; have h3 := HI.out; have h4 := HN.out; omega, hol2⟩
          clear HD HP HBX HR HO HO2 HE9 hos2 hol2 ho hb hg hat hcut hx HC2 HRL HB H1
          have HD := HD2
          have HP := HP2
          have HBX := HBX2
          have HR := HR2
          have HO := HO3
          have HNN := HNN2
          clear HD2 HP2 HBX2 HR2 HO3 HNN2
          obtain ⟨Af, cf, rfl⟩ := Kd.R_slice HR.out
          have HPG : Aside0 (w.heap.size ≠ g) := ⟨by rw [HG.out]; omega⟩
          have HPL : Aside0 (w.heap.size < w2.heap.size) := ⟨by have h1 := HBX.out.size; have h2 := HD.out.lt; rw [HG.out] at h2; omega⟩
          have HBS : Aside0 (w.heap.size ≤ w2.heap.size) := ⟨HBX.out.size⟩
          rcases hfr : frs with _ | ⟨f0, frs'⟩
          · rw [hfr] at HD HR HE0
            have c9 := HD.out.c9
            have t8 : ((([] : List ByteArray).length : Int) == 0) = true := rfl
            rcases hos : os2 with _ | ⟨o, os2'⟩
            · rw [hos] at HE0 HO
              have hrr : r = noJob 1 (xs.length : Int) := (Option.some.inj HE0.out).symm
              subst hrr
              have HPX := HP
              have f0 := HPX.out.f 0
              have f1 := HPX.out.f 1
              have f2 := HPX.out.f 2
              have f3 := HPX.out.f 3
              have f4 := HPX.out.f 4
              have f5 := HPX.out.f 5
              have f6 := HPX.out.f 6
              have f7 := HPX.out.f 7
              obtain ⟨p0, p1, p2, p3, p4, p5, p6, p7⟩ := HPX.out.c
              go_wp2
              rw [Exit.noGoto_ret]
              refine bodyPost_ret (v := .tuple #[.agg #[.bool false, .bool false, .bool false, .bool false, .string ⟨#[]⟩, .int .u8 0, .string ⟨#[]⟩, .slice none 0 0], .int .u16 1, .int .i64 xs.length]) (by simp [results, Tryd.results14, go_sem, p0, p1, p2, p3, p4, p5, p6, p7]) rfl ⟨_, rfl, Kd.Q_nil _ _ _ _ _, ?_⟩
              exact ((((((((HBX.out).setCell (Nat.le_refl _) _).setCell (Nat.le_refl _) _).setCell (Nat.le_refl _) _).setCell (Nat.le_refl _) _).setCell (Nat.le_refl _) _).setCell (Nat.le_refl _) _).setCell (Nat.le_refl _) _).setCell (Nat.le_refl _) _
            · rw [hos] at HE0 HO HNN
              have HE_ : Aside0 (fin s1 [o] os2' = some r) := ⟨HE0.out⟩
              obtain ⟨go, cgo, hgo, hgo2, hgo3, _⟩ := Kd.R_form HO.out (by simp)
              cases hgo
              have hco := (Kd.R_reads' HO.out).2.1
              simp only [List.length_cons] at hco
              have t9 : (((o :: os2').length : Int) == 0) = false := beq_eq_false_iff_ne.2 (by simp only [List.length_cons]; omega)
              have q8 : ((1 : Int) ≤ (co2 : Int)) = True := eq_true (by omega)
              have q9 : ((1 : Int) ≤ (os2'.length : Int) + 1) = True := eq_true (by omega)
              have HCO := Aside0.mk hco
              have HGO := Aside0.mk hgo2
              have HGO3 := Aside0.mk hgo3
              clear hco hgo2 hgo3
              obtain ⟨FV, hFV⟩ : ∃ FV : Option Addr, FV = (if co2 = 1 then some ⟨go, 0, none⟩ else some ⟨go, 1, none⟩) := ⟨_, rfl⟩
              have HFV := Aside0.mk hFV
              clear hFV
              have HQ0 : Aside0 (Kd.Q Kd.string 9 w2 (g + 1) (fun _ => True) (.slice FV os2'.length (co2 - 1)) os2') := ⟨by
                have h1 := Kd.Q_drop (k := 1) (Kd.Q_of_R HO.out) (by simp)
                rw [HFV.out]
                have h2 : (if co2 = 1 then some (⟨go, 0, none⟩ : Addr) else (some (⟨go, 0, none⟩ : Addr)).map (·.add (1 * Kd.string.sz))) = (if co2 = 1 then some ⟨go, 0, none⟩ else some ⟨go, 1, none⟩) := rfl
                rw [h2] at h1
                exact h1⟩
              go_wp2
              refine start_ (n := 9) (S := fun w' => True) (ds := [7]) #[false, false, false, false, false, false, false, false, false] (by kernel_rfl) rfl rfl (trivial) (fun hHeld => ?_)
              have hdr := HD.out.of (W' := w2.drew) rfl
              have c9d := hdr.c9
              have f9d := hdr.f 9
              refine pure_ (i := 0) (N := some 84) (v := ?_) (a' := ?_) #[true, false, false, false, false, false, false, false, false] rfl rfl (by kernel_rfl) (fun _ _ _ h => h) (Or.inl ⟨by rfl, ?_⟩) ?_ ?_
              rotate_left
              · intro w'
                go_simp
                try with_reducible rfl
              rotate_left
              · simp only [Act.put, List.setIfInBounds_toArray, List.set_cons_zero, List.set_cons_succ]
                rfl
              refine pure_ (i := 1) (N := some 85) (v := ?_) (a' := ?_) #[true, true, false, false, false, false, false, false, false] rfl rfl (by kernel_rfl) (fun _ _ _ h => h) (Or.inl ⟨by rfl, ?_⟩) ?_ ?_
              rotate_left
              · intro w'
                go_simp
                try with_reducible rfl
              rotate_left
              · simp only [Act.put, List.setIfInBounds_toArray, List.set_cons_zero, List.set_cons_succ]
                rfl
              refine pure_ (i := 2) (N := some 86) (v := ?_) (a' := ?_) #[true, true, true, false, false, false, false, false, false] rfl rfl (by kernel_rfl) (fun _ _ _ h => h) (Or.inl ⟨by rfl, ?_⟩) ?_ ?_
              rotate_left
              · intro w'
                go_simp
                try with_reducible rfl
              rotate_left
              · simp only [Act.put, List.setIfInBounds_toArray, List.set_cons_zero, List.set_cons_succ]
                rfl
              refine pure_ (i := 3) (N := some 87) (v := ?_) (a' := ?_) #[true, true, true, true, false, false, false, false, false] rfl rfl (by kernel_rfl) (fun _ _ _ h => h) (Or.inl ⟨by rfl, ?_⟩) ?_ ?_
              rotate_left
              · intro w'
                go_simp
                try with_reducible rfl
              rotate_left
              · simp only [Act.put, List.setIfInBounds_toArray, List.set_cons_zero, List.set_cons_succ]
                rfl
              refine pure_ (i := 4) (N := some 88) (v := .slice FV os2'.length (co2 - 1)) (a' := ?_) #[true, true, true, true, true, false, false, false, false] rfl rfl (by kernel_rfl) (fun _ _ _ h => h) (Or.inl ⟨by rfl, ?_⟩) ?_ ?_
              · intro w'
                go_simp
                rw [HFV.out]
                first | done | rfl | (split <;> rfl)
              rotate_left
              · simp only [Act.put, List.setIfInBounds_toArray, List.set_cons_zero, List.set_cons_succ]
                rfl
              refine pure_ (i := 5) (N := some 89) (v := ?_) (a' := ?_) #[true, true, true, true, true, true, false, false, false] rfl rfl (by kernel_rfl) (fun _ _ _ h => h) (Or.inl ⟨by rfl, ?_⟩) ?_ ?_
              rotate_left
              · intro w'
                go_simp
                try with_reducible rfl
              rotate_left
              · simp only [Act.put, List.setIfInBounds_toArray, List.set_cons_zero, List.set_cons_succ]
                rfl
              refine pure_ (i := 6) (N := some 90) (v := ?_) (a' := ?_) #[true, true, true, true, true, true, true, false, false] rfl rfl (by kernel_rfl) (fun _ _ _ h => h) (Or.inl ⟨by rfl, ?_⟩) ?_ ?_
              rotate_left
              · intro w'
                go_simp
                try with_reducible rfl
              rotate_left
              · simp only [Act.put, List.setIfInBounds_toArray, List.set_cons_zero, List.set_cons_succ]
                rfl
              refine last_ (i := 7) (N := none) #[true, true, true, true, true, true, true, true, false] rfl rfl (by kernel_rfl) (by decide) (fun K hK => ?_)
              obtain ⟨W2, hW2⟩ : ∃ W2, W2 = w2.drew.setCell ⟨g, 9, none⟩ (.slice (some ⟨go, 0, none⟩) 1 co2) := ⟨_, rfl⟩
              have HW2 := Aside0.mk hW2
              clear hW2
              refine skip_ (w1 := W2) (by rfl) rfl (by go_simp; rw [HW2.out]; rfl) ?_
              refine hK.out _ _ ?_
              clear hK K
              refine pure_ (i := 8) (N := some 8) (v := ?_) (a' := ?_) #[true, true, true, true, true, true, true, true, true] rfl rfl (by kernel_rfl) (fun _ _ _ h => h) (Or.inl ⟨by rfl, ?_⟩) ?_ ?_
              rotate_left
              · intro w'
                go_simp
                try with_reducible rfl
              rotate_left
              · simp only [Act.put, List.setIfInBounds_toArray, List.set_cons_zero, List.set_cons_succ]
                rfl
              refine done_ (by kernel_rfl) ?_
              have HDt : Aside0 (RdAt W2 g s1 (.slice A1 l.length c1) (.slice (some ⟨go, 0, none⟩) 1 co2)) := ⟨by rw [HW2.out]; exact hdr.set9 _⟩
              have HRt : Aside0 (Kd.R Kd.string 9 W2 (g + 1) (fun _ => True) (.slice (some ⟨go, 0, none⟩) 1 co2) [o]) := ⟨by
                rw [HW2.out]
                exact R_at_set (Kd.R_drew (Kd.R_take (m := 1) HO.out (by simp))) _⟩
              have HQt : Aside0 (Kd.Q Kd.string 9 W2 (g + 1) (fun _ => True) (.slice FV os2'.length (co2 - 1)) os2') := ⟨by rw [HW2.out]; exact Q_put (Kd.Q_drew HQ0.out) (Nat.lt_succ_self g)⟩
              have HPt : Aside0 (ResAt W2 w.heap.size) := ⟨by rw [HW2.out]; exact HP.out.of (Below.heap_setCell _ ⟨g, 9, none⟩ _ _ HPG.out)⟩
              have HBt : Aside0 (Below w.heap.size w W2) := ⟨by rw [HW2.out]; exact (below_drew1 HBX.out).setCell (by rw [HG.out]; exact Nat.le_succ _) _⟩
              have HPL : Aside0 (w.heap.size < W2.heap.size) := ⟨by have h1 := HDt.out.lt; rw [HG.out] at h1; omega⟩
              have HBS : Aside0 (w.heap.size ≤ W2.heap.size) := ⟨Nat.le_of_lt HPL.out⟩
              have HL0 : Aside0 (0 < ([o] : List ByteArray).length) := ⟨by simp⟩
              have HL1 : Aside0 (([o] : List ByteArray).length < 1000000) := ⟨by simp⟩
              clear hdr c9d f9d
              have hfin := HE_.out
              unfold fin at hfin
              by_cases hj : (Lib.join (([o]).map (·.data.toList)) [10]).length ≤ 140737488355328
              · rw [if_pos hj] at hfin
                have hrr := (Option.some.inj hfin).symm
                subst hrr
                have HJ := Aside0.mk hj
                clear hfin hj
                have c9 := HDt.out.c9
                go_wp2_with (fail)
                refine (join_calls (W2) (g + 1) (fun _ => True) _ ([o]) HRt.out HL0.out HL1.out HJ.out).mono ?_
                rintro e w3 ⟨rfl, hb3⟩
                have HB3 := Aside0.mk hb3
                have HD3 := Aside0.mk (HDt.out.below hb3)
                have HP3 := Aside0.mk (HPt.out.of (hb3.block _ HPL.out))
                have HQ3 := Aside0.mk (Kd.Q_below HQt.out hb3)
                have g4 := HD3.out.c4
                have g7 := HD3.out.c7
                have h4 := HD3.out.f 4
                have h7 := HD3.out.f 7
                have g7s := (HD3.out.four (joinS ([o]))).1
                have h7s := (HD3.out.four (joinS ([o]))).2
                obtain ⟨k0, k1', k2, k3, k4, k5, k6, k7⟩ := (HD3.out.two (joinS ([o])) (.slice FV os2'.length (co2 - 1))).c
                have HPX : Aside0 (ResAt ((w3.setCell ⟨g, 4, none⟩ (.string (joinS ([o])))).setCell ⟨g, 7, none⟩ (.slice FV os2'.length (co2 - 1))) w.heap.size) := ⟨HP3.out.of ((Below.heap_setCell _ ⟨g, 7, none⟩ _ _ HPG.out).trans (Below.heap_setCell _ ⟨g, 4, none⟩ _ _ HPG.out))⟩
                have f0 := HPX.out.f 0
                have f1 := HPX.out.f 1
                have f2 := HPX.out.f 2
                have f3 := HPX.out.f 3
                have f4 := HPX.out.f 4
                have f5 := HPX.out.f 5
                have f6 := HPX.out.f 6
                have f7 := HPX.out.f 7
                obtain ⟨p0, p1, p2, p3, p4, p5, p6, p7⟩ := HPX.out.c
                clear hb3
                go_wp2
                rw [Exit.noGoto_ret]
                refine bodyPost_ret (v := .tuple #[.agg #[.bool s1.q, .bool s1.x, .bool s1.a, .bool s1.i, .string (joinS ([o])), .int .u8 s1.en, .string s1.lo, .slice FV os2'.length (co2 - 1)], .int .u16 0, .int .i64 0]) (by simp [results, Tryd.results14, go_sem, p0, p1, p2, p3, p4, p5, p6, p7]) rfl ⟨_, rfl, ?_, ?_⟩
                · exact Q_put8 (Q_put (Q_put HQ3.out (Nat.lt_succ_self g)) (Nat.lt_succ_self g)) (by rw [HG.out]; omega) (by rw [HG.out]; omega)
                · exact ((((((((((HBt.out.trans (HB3.out.mono HBS.out)).setCell (by rw [HG.out]; exact Nat.le_succ _) _).setCell (by rw [HG.out]; exact Nat.le_succ _) _).setCell (Nat.le_refl _) _).setCell (Nat.le_refl _) _).setCell (Nat.le_refl _) _).setCell (Nat.le_refl _) _).setCell (Nat.le_refl _) _).setCell (Nat.le_refl _) _).setCell (Nat.le_refl _) _).setCell (Nat.le_refl _) _
              · rw [if_neg hj] at hfin
                cases hfin
          · have t8 : (((f0 :: frs').length : Int) == 0) = false := beq_eq_false_iff_ne.2 (by simp only [List.length_cons]; omega)
            rw [hfr] at HD HR HE0 HNN
            have HDt := HD
            have HRt := Aside0.mk (R_ok HR.out (ok' := fun _ => True) (fun _ _ => trivial))
            have HQt := Aside0.mk (Kd.Q_of_R HO.out)
            have HPt := HP
            have HBt := HBX
            have HE_ : Aside0 (fin s1 (f0 :: frs') os2 = some r) := ⟨HE0.out⟩
            have HL0 : Aside0 (0 < (f0 :: frs').length) := ⟨by simp⟩
            have HL1 := Aside0.mk HNN.out.1
            generalize hff : f0 :: frs' = ff at *
            clear hff hfr
            have hfin := HE_.out
            unfold fin at hfin
            by_cases hj : (Lib.join ((ff).map (·.data.toList)) [10]).length ≤ 140737488355328
            · rw [if_pos hj] at hfin
              have hrr := (Option.some.inj hfin).symm
              subst hrr
              have HJ := Aside0.mk hj
              clear hfin hj
              have c9 := HDt.out.c9
              go_wp2_with (fail)
              refine (join_calls w2 (g + 1) (fun _ => True) _ (ff) HRt.out HL0.out HL1.out HJ.out).mono ?_
              rintro e w3 ⟨rfl, hb3⟩
              have HB3 := Aside0.mk hb3
              have HD3 := Aside0.mk (HDt.out.below hb3)
              have HP3 := Aside0.mk (HPt.out.of (hb3.block _ HPL.out))
              have HQ3 := Aside0.mk (Kd.Q_below HQt.out hb3)
              have g4 := HD3.out.c4
              have g7 := HD3.out.c7
              have h4 := HD3.out.f 4
              have h7 := HD3.out.f 7
              have g7s := (HD3.out.four (joinS (ff))).1
              have h7s := (HD3.out.four (joinS (ff))).2
              obtain ⟨k0, k1', k2, k3, k4, k5, k6, k7⟩ := (HD3.out.two (joinS (ff)) (.slice Ao2 os2.length co2)).c
              have HPX : Aside0 (ResAt ((w3.setCell ⟨g, 4, none⟩ (.string (joinS (ff)))).setCell ⟨g, 7, none⟩ (.slice Ao2 os2.length co2)) w.heap.size) := ⟨HP3.out.of ((Below.heap_setCell _ ⟨g, 7, none⟩ _ _ HPG.out).trans (Below.heap_setCell _ ⟨g, 4, none⟩ _ _ HPG.out))⟩
              have f0 := HPX.out.f 0
              have f1 := HPX.out.f 1
              have f2 := HPX.out.f 2
              have f3 := HPX.out.f 3
              have f4 := HPX.out.f 4
              have f5 := HPX.out.f 5
              have f6 := HPX.out.f 6
              have f7 := HPX.out.f 7
              obtain ⟨p0, p1, p2, p3, p4, p5, p6, p7⟩ := HPX.out.c
              clear hb3
              go_wp2
              rw [Exit.noGoto_ret]
              refine bodyPost_ret (v := .tuple #[.agg #[.bool s1.q, .bool s1.x, .bool s1.a, .bool s1.i, .string (joinS (ff)), .int .u8 s1.en, .string s1.lo, .slice Ao2 os2.length co2], .int .u16 0, .int .i64 0]) (by simp [results, Tryd.results14, go_sem, p0, p1, p2, p3, p4, p5, p6, p7]) rfl ⟨_, rfl, ?_, ?_⟩
              · exact Q_put8 (Q_put (Q_put HQ3.out (Nat.lt_succ_self g)) (Nat.lt_succ_self g)) (by rw [HG.out]; omega) (by rw [HG.out]; omega)
              · exact ((((((((((HBt.out.trans (HB3.out.mono HBS.out)).setCell (by rw [HG.out]; exact Nat.le_succ _) _).setCell (by rw [HG.out]; exact Nat.le_succ _) _).setCell (Nat.le_refl _) _).setCell (Nat.le_refl _) _).setCell (Nat.le_refl _) _).setCell (Nat.le_refl _) _).setCell (Nat.le_refl _) _).setCell (Nat.le_refl _) _).setCell (Nat.le_refl _) _).setCell (Nat.le_refl _) _
            · rw [if_neg hj] at hfin
              cases hfin
        · have e1' : (z.toList == ([45, 45] : List UInt8)) = false := by simpa using e1
          by_cases e2 : 1 < z.size ∧ bt z 0 = 45
          · have t4 : decide ((z.size : Int) > 1) = true := decide_eq_true (by omega)
            have t5 : decide ((1 : Int) < (z.size : Int)) = true := decide_eq_true (by omega)
            have q2 : (0 : Int) < (z.size : Int) := by omega
            have q5 : (c0 = i) = False := eq_false (by have := HCC.out; omega)
            have hz0 : ((((z[0]'(by omega)).toNat : Nat) : Int) == 45) = true := beq_iff_eq.2 ((bt_at z 0 (by show (0 : Int).toNat < z.size; simp; omega)).trans e2.2)
            have H := H1.out
            rw [if_neg e1, if_pos e2] at H
            obtain ⟨R1, hR1, hR2⟩ := Option.bind_eq_some_iff.1 H
            obtain ⟨⟨s2, frs2, n2, er2⟩, hlet, hR3⟩ := Option.bind_eq_some_iff.1 hR1
            have hlen := letF_len hlet
            have hrl : (z :: rest).length = xs.length - i := by rw [← hd, List.length_drop]
            have hzz : z ∈ xs := by rw [← List.take_append_drop i xs, hd]; simp
            have HLC := Aside0.mk hlen
            have HD0 := Aside0.mk hd
            have HADV : Aside0 (er2 = 0 → 1 ≤ n2 ∧ n2 ≤ 2 ∧ i + n2.toNat ≤ xs.length) := ⟨fun q => by
              rcases hlen.2.1 q with h1 | ⟨h1, t0, h2⟩
              · omega
              · rcases hrs : rest with _ | ⟨t0', rest'⟩
                · rw [hrs] at h2; cases h2
                · rw [hrs] at hrl; simp only [List.length_cons] at hrl; omega⟩
            have HR3 := Aside0.mk hR3
            have HR2' := Aside0.mk hR2
            have CALL : Aside0 (Calls Tryd.prog 21 #[.pointer (some ⟨g, 0, none⟩), .slice (some (ad.add i)) (xs.length - i) (c0 - i)] wr (LEnd wr g fr s2 (.slice A1 l.length c1) frs2 n2 er2)) := ⟨by
              have h1 := HFL.out
              have h2 := HN.out
              have h3 : w.heap.size ≤ g := by rw [HG.out]; omega
              rw [← hrl]
              refine letters_calls wr g s1 s2 fr frs frs2 (z.size + 1) n2 er2 z rest (some (ad.add i)) (c0 - i) A1 c1 l HD.out (R_ok HR.out (fun _ _ => trivial)) ?_ ?_ HL.out (by omega) (by simp only [List.length_cons] at hrl; omega) (HZ.out z hzz) hlet
              · exact fun W' hW => Kd.C_below HC1.out (HBX.out.trans (hW.mono h3))
              · intro W' hW
                have h4 := Kd.C_drop (Kd.C_below HC0.out (HBX.out.trans (hW.mono h3))) (m := i) (by omega) HCC.out
                rw [hd, if_neg (by have := HCC.out; omega)] at h4
                have e5 : (some ad).map (·.add (i * Kd.string.sz)) = some (ad.add i) := by show some (ad.add (i * 1)) = _; rw [Nat.mul_one]
                rw [e5] at h4
                exact h4⟩
            by_cases e3 : er2 = 0
            · have t7 : (er2 == 0) = true := beq_iff_eq.2 e3
              have t8 : (er2 != 0) = false := bne_eq_false_iff_eq.2 e3
              have E3 := Aside0.mk e3
              clear e3 H hR1 hR2 hR3 hlet hlen hrl hzz hd hd2 hzi
              go_wp2_with (go_at_call 21; refine CALL.out.mono ?_; rintro e w2 ⟨rfl, fr2, hd2, hr2, hb2, hk2, ho2⟩; have HE := Aside0.mk (And.intro hd2 (And.intro hr2 hb2)); have HE2 := Aside0.mk (And.intro hk2 ho2); clear hd2 hr2 hb2 hk2 ho2)
              go_roundg k1
              case measure => omega
              case rel =>
                have hadv := HADV.out E3.out
                have hil := HI.out
                have hnn := HN.out
                refine ⟨i + n2.toNat, s2, fr2, frs2, os, (by congr 1; unfold wrap64; omega), ⟨?_⟩, ⟨hadv.2.2⟩, ⟨by have h1 := HLC.out.1; have h2 := HFL.out; omega⟩, ⟨by have h1 := HOL.out; omega⟩, ⟨HE.out.1⟩, ⟨R_ok HE.out.2.1 ?_⟩, ⟨R_stay HO.out ?_⟩, ⟨HB.out.trans HE.out.2.2⟩⟩
                · have h5 : (if er2 = 0 then parseL l k1 ((z :: rest).drop n2.toNat) (i + n2.toNat) s2 frs2 os else some (Sum.inl (er2, (i : Int)))) = some R1 := HR3.out
                  rw [if_pos E3.out] at h5
                  have h6 : (z :: rest).drop n2.toNat = xs.drop (i + n2.toNat) := by rw [← HD0.out, List.drop_drop]
                  rw [h6] at h5
                  rw [h5]
                  exact HR2'.out
                · intro k hk
                  rcases HE2.out.2 with h7 | ⟨b7, h7, h8⟩
                  · exact HR.out.1 k (h7 ▸ hk)
                  · rw [h7] at hk
                    cases hk
                    exact head_lt HO.out _ h8
                · intro k hk hlt
                  exact HE2.out.1 k hlt (by have := Kd.R_base HO.out k hk; omega) (fun e => HR.out.1 k e.symm hk.symm)
            · have t7 : (er2 == 0) = false := beq_eq_false_iff_ne.2 e3
              have t8 : (er2 != 0) = true := bne_iff_ne.2 e3
              have hRR : R1 = .inl (er2, (i : Int)) := by
                have h5 : (if er2 = 0 then _ else some (Sum.inl (er2, (i : Int)))) = some R1 := hR3
                rw [if_neg e3] at h5
                exact (Option.some.inj h5).symm
              subst hRR
              have hrr : r = noJob er2 (i : Int) := (Option.some.inj hR2).symm
              subst hrr
              clear e3 H hR1 hR2 hR3 hlet hlen hrl hzz hd hd2 hzi
              go_wp2_with (go_at_call 21; refine CALL.out.mono ?_; rintro e w2 ⟨rfl, fr2, hd2, hr2, hb2, hk2, ho2⟩; have HE := Aside0.mk (And.intro hd2 (And.intro hr2 hb2)); have HP2 := HP.out.of (hb2.block w.heap.size (by rw [HG.out]; omega)); have hpc := HP2.c; have f0 := HP2.f 0; have f1 := HP2.f 1; have f2 := HP2.f 2; have f3 := HP2.f 3; have f4 := HP2.f 4; have f5 := HP2.f 5; have f6 := HP2.f 6; have f7 := HP2.f 7; obtain ⟨p0, p1, p2, p3, p4, p5, p6, p7⟩ := hpc; clear hd2 hr2 hb2 hk2 ho2 HP2)
              rw [Exit.noGoto_ret]
              refine bodyPost_ret (v := .tuple #[.agg #[.bool false, .bool false, .bool false, .bool false, .string ⟨#[]⟩, .int .u8 0, .string ⟨#[]⟩, .slice none 0 0], .int .u16 er2, .int .i64 i]) (by simp [results, Tryd.results14, go_sem, p0, p1, p2, p3, p4, p5, p6, p7]) rfl ⟨_, rfl, Kd.Q_nil _ _ _ _ _, ?_⟩
              exact ((((((((HBX.out.trans (HE.out.2.2.mono (show w.heap.size ≤ g by rw [HG.out]; omega))).setCell (Nat.le_refl _) _).setCell (Nat.le_refl _) _).setCell (Nat.le_refl _) _).setCell (Nat.le_refl _) _).setCell (Nat.le_refl _) _).setCell (Nat.le_refl _) _).setCell (Nat.le_refl _) _).setCell (Nat.le_refl _) _
          · have H := H1.out
            rw [if_neg e1, if_neg e2] at H
            have HH2 := Aside0.mk H
            have HD22 := Aside0.mk hd2
            have HLT : Aside0 (g + 1 ≤ wr.heap.size) := ⟨HD.out.lt⟩
            have HBD : Aside0 ((os.length + 1) * 16 ≤ 140737488355328) := ⟨by have h1 := HOL.out; have h3 := HN.out; omega⟩
            have HO2 := Aside0.mk (R_ok HO.out (ok' := fun k => some k ≠ fr.ownBlock) (fun k hk e => HR.out.1 k e.symm hk.symm))
            have HFS := Aside0.mk (head_lt HR.out)
            have HI2 := Aside0.mk hi
            have t6 : ∃ bb : Bool, (decide ((z.size : Int) > 1) = bb ∧ decide ((1 : Int) < (z.size : Int)) = bb) ∧ (bb = true → ∀ h : 0 < z.size, ((((z[0]'h).toNat : Nat) : Int) == 45) = false) := by
              by_cases e3 : 1 < z.size
              · exact ⟨true, ⟨decide_eq_true (by omega), decide_eq_true (by omega)⟩, fun _ h => beq_eq_false_iff_ne.2 (fun q => e2 ⟨e3, by rw [← bt_at z 0 (by show (0 : Int).toNat < z.size; simp; omega)]; exact q⟩)⟩
              · exact ⟨false, ⟨decide_eq_false (by omega), decide_eq_false (by omega)⟩, fun h => by cases h⟩
            clear H hd hd2 hzi H1
            obtain ⟨bb, ⟨t4, t5⟩, hz9⟩ := t6
            cases bb
            all_goals
              first
              | (have hz0 := hz9 rfl (by have h8 := of_decide_eq_true t5; omega); have q2 : (0 : Int) < (z.size : Int) := by (have h8 := of_decide_eq_true t5; omega))
              | skip
              clear hz9
              go_wp2_with ((with_reducible refine gate_builtin (b := .append) (xs := #[.tmp 32, .tmp 34]) rfl ?_); at_builtin; refine Kd.R_append Kd.string (w0 := wr) (g + 1) rfl (.tmp 32) (.tmp 34) 22 9 (.string ⟨#[]⟩) 16 rfl Tryd.underlying22 PX.info9 rfl (by decide) (by decide) (.slice Ao os.length co) os z [.string z] (fun k => some k ≠ fr.ownBlock) (fun _ => False) rfl rfl rfl (fun _ hk => hk.elim) HFS.out HO2.out (Below.refl _ _) HLT.out HBD.out ?_; intro v1 w2 ho hb hg hat; have HO5 := Aside0.mk ho; have HB5 := Aside0.mk hb; have HG5 := Aside0.mk hg; have HA5 := Aside0.mk hat; clear ho hb hg hat)
              go_roundg k1
              case measure => omega
              case rel =>
                have hnn := HN.out
                have hil := HI2.out
                refine ⟨i + 1, s1, fr, frs, os ++ [z], (by congr 1; unfold wrap64; omega), ⟨by rw [HD22.out]; exact HH2.out⟩, ⟨hil⟩, ⟨by have h2 := HFL.out; omega⟩, ⟨by have h1 := HOL.out; rw [List.length_append]; simp only [List.length_cons, List.length_nil]; omega⟩, ⟨HD.out.of (HB5.out.block g (Nat.lt_succ_self g))⟩, ⟨R_ok (R_stay HR.out (fun k hk hlt => HG5.out.block k hlt (HR.out.1 k hk))) ?_⟩, ⟨R_ok HO5.out (fun _ _ => trivial)⟩, ⟨HB.out.trans (HB5.out.mono (Nat.le_succ g))⟩⟩
                intro k hk
                rcases HA5.out with h7 | ⟨b7, h7, h8⟩
                · rw [h7]; exact HR.out.1 k hk
                · rw [h7]
                  intro e
                  cases e
                  exact head_lt HR.out _ h8 hk.symm
#print axioms parse_all
end Go.Proofs.YtceflmoiiiclcaaDoor.EC
namespace Go.Proofs.YtceflmoiiiclcaaDoor.PX
set_option linter.unusedVariables false
open Go.RowKit Go.Proofs.YtceflmoiiiclcaaDoorW.PrintWords Go.Proofs.YtceflmoiiiclcaaDoor.EC
theorem opts_Parse.calls (k : Nat) (A0 : Option Addr) (c0 : Nat) (l0 : List ByteArray) (A1 : Option Addr) (c1 : Nat) (l1 : List S54) (r0 r1 r2 r3 : Bool) (r4 : ByteArray) (r5 : Int) (r6 : ByteArray) (r7 : List ByteArray) (r8 r9 : Int) (w : World) (hr0 : Kd.C Kd.string w A0 l0.length l0) (hc0 : l0.length ≤ c0) (hr1 : Kd.C k54 w A1 l1.length l1) (hc1 : l1.length ≤ c1)
    (h : opts_Parse.f k l0 l1 = some (r0, r1, r2, r3, r4, r5, r6, r7, r8, r9)) :
    Calls Tryd.prog 14 #[.slice A0 l0.length c0, .slice A1 l1.length c1] w fun e w' => ∃ v0_ : Value, e = .returned (.tuple #[.agg #[.bool r0, .bool r1, .bool r2, .bool r3, .string r4, .int .u8 r5, .string r6, v0_], .int .u16 r8, .int .i64 r9]) ∧ Kd.Q Kd.string 9 w' w.heap.size (fun _ => True) v0_ r7 ∧ Below w.heap.size w w' := by
  unfold opts_Parse.f at h
  by_cases hc : (∀ z ∈ l0, z.size < 4611686018427387904) ∧ l1.length < 35184372088832
  · rw [if_pos hc] at h
    unfold parseF at h
    by_cases h40 : 40 < l0.length
    · rw [if_pos h40] at h
      cases h
      exact parse_long w A0 c0 l0.length _ h40
    · rw [if_neg h40] at h
      exact parse_all w A0 c0 l0 A1 c1 l1 _ hr0 hr1 hc0 hc.1 hc.2 h40 h
  · rw [if_neg hc] at h
    cases h
#print axioms opts_Parse.calls
end Go.Proofs.YtceflmoiiiclcaaDoor.PX
