/- bytes.HasPrefix, and codec.decode16 behind a pointer: it leaves in the document what the mark at the beginning says, and what stands behind it. Conditions: the document is the last block, the bytes are read elsewhere. -/
import Derived.Test.YtcofbakhhcgbfaaDoorExtDoc
import Derived.Outline
namespace Go.Proofs.YtcofbakhhcgbfaaDoor.EC
open Go.RowKit Go.Proofs.YtcofbakhhcgbfaaDoorW.PrintWords Go.Proofs.YtcofbakhhcgbfaaDoorW.PrintLast Go.Proofs.YtcofbakhhcgbfaaDoorW.PrintMore
set_option linter.unusedVariables false

/-- Do the first bytes begin with the others? -/
def pfx (l0 l1 : List Int) : Bool := if l1.length ≤ l0.length then ((strOfNums (l0.take l1.length)).toList == (strOfNums l1).toList) else false
theorem info_byte : (Tryd.prog.info? 5).map (fun i => (i.zero, i.size, i.bytes)) = some (some (.int .u8 0), 1, 1) := by kernel_rfl

set_option maxHeartbeats 1000000 in
set_option maxRecDepth 100000 in
theorem hasPrefix_calls (A0 : Option Addr) (c0 : Nat) (l0 : List Int) (A1 : Option Addr) (c1 : Nat) (l1 : List Int) (w : World) (hr0 : Kd.C (Kd.int .u8) w A0 l0.length l0) (hc0 : l0.length ≤ c0) (hr1 : Kd.C (Kd.int .u8) w A1 l1.length l1) (hc1 : l1.length ≤ c1) :
    Calls Tryd.prog 53 #[.slice A0 l0.length c0, .slice A1 l1.length c1] w fun e w' => e = .returned (.bool (pfx l0 l1)) ∧ Drawn0 w w' := by
  by_cases h : l1.length ≤ l0.length
  · obtain ⟨i0, hi, _, hsz, _⟩ := info_parts info_byte
    obtain ⟨hcut, hA, hC⟩ := print_take_of (P := Tryd.prog) (Value.int .u8) 0 22 5 .i64 Tryd.underlying22 hi hsz A0 c0 l0 (l1.length : Int) (by omega) (by omega) hc0
    have hr2 : Kd.C (Kd.int .u8) w A0 (l0.take ((l1.length : Int)).toNat).length (l0.take ((l1.length : Int)).toNat) := Kd.C_of_reads (h1 := fun _ => rfl) (hA _ (Kd.reads_of_C hr0))
    have e2 : ((l1.length : Int)).toNat = l1.length := by omega
    rw [e2] at hcut hr2 hC
    obtain ⟨p, hp⟩ : ∃ p, p = l0.take l1.length := ⟨_, rfl⟩
    rw [← hp] at hcut hr2 hC
    have key := PM.bytes_Equal.calls A0 c0 p A1 c1 l1 _ w hr2 hC hr1 hc1 rfl
    have hb : ((strOfNums p).toList == (strOfNums l1).toList) = pfx l0 l1 := by unfold pfx; rw [if_pos h, hp]
    rw [hb] at key
    have t1 : decide ((l1.length : Int) ≤ (l0.length : Int)) = true := decide_eq_true (by omega)
    have t2 : decide (l1.length ≤ l0.length) = true := decide_eq_true h
    have KEY := Aside0.mk key
    clear hr0 hc0 hr1 hc1 hr2 hC hA hb hp e2 hi hsz key
    go_enter Tryd.func53, Tryd.ntmps53
    go_wp2_with (go_at_call 63; refine KEY.out.mono ?_; rintro e w' ⟨rfl, ⟨nd, rfl⟩⟩)
    go_ret
    exact ⟨by simp, ⟨_, rfl⟩⟩
  · have t1 : decide ((l1.length : Int) ≤ (l0.length : Int)) = false := decide_eq_false (by omega)
    have t2 : decide (l1.length ≤ l0.length) = false := decide_eq_false h
    have hb : pfx l0 l1 = false := by unfold pfx; rw [if_neg h]
    rw [hb]
    clear hr0 hc0 hr1 hc1 hb
    go_enter Tryd.func53, Tryd.ntmps53
    go_wp2
    go_ret
    exact ⟨rfl, Drawn0.refl _⟩
/-- What the marks say: the order, and whether there is one. -/
def s1 (l : List Int) : Bool × Bool := if pfx l [254, 255] = true then (true, true) else (true, false)
def s2 (l : List Int) : Bool × Bool := if pfx l [255, 254] = true then (false, true) else s1 l
/-- The state ahead of the loop's round j. -/
def St (l : List Int) (j : Int) (b1 b2 : Bool) : Prop := (j = 0 → (b1, b2) = (true, false)) ∧ (j = 1 → (b1, b2) = s1 l) ∧ (j = 2 → (b1, b2) = s2 l)

theorem mark_calls (a0 : Bool) (w : World) : Calls Tryd.prog 54 #[.bool a0] w fun e w' => ∃ v0_ : Value, e = .returned (v0_) ∧ Kd.R (Kd.int .u8) 5 w' w.heap.size (fun _ => True) v0_ (if a0 = true then [254, 255] else [255, 254]) ∧ Below w.heap.size w w' :=
  PM.codec_mark.calls a0 _ w (by unfold PM.codec_mark.f; cases a0 <;> rfl)

set_option maxHeartbeats 4000000 in
set_option maxRecDepth 100000 in
theorem decode16_calls (k : Nat) (w : World) (g : Nat) (e0 : Int) (A : Option Addr) (c : Nat) (l r : List Int) (hg : DocAt w g e0 false false (.slice none 0 0)) (hr : ∀ W', Below g w W' → Kd.C (Kd.int .u8) W' A l.length l) (hc : l.length ≤ c)
    (h : PM.utf16_Decode.f k (if (s2 l).2 = true then l.drop 2 else l) (s2 l).1 = some r) (h2 : (s2 l).2 = true → 2 ≤ l.length) :
    Calls Tryd.prog 38 #[.pointer (some ⟨g, 0, none⟩), .slice A l.length c] w (DocEnd w g e0 (s2 l).1 (s2 l).2 r) := by
  have HR := Aside0.mk hr
  have HC := Aside0.mk hc
  have HG := Aside0.mk hg
  have H := Aside0.mk h
  have H2 := Aside0.mk h2
  have c1 := hg.c1
  have f1 := hg.f 1
  have i0 : ∀ w, (Instr.index 78 (.agg #[.bool true, .bool false]) (.int .i64 0)).run Tryd.prog w = .ok (.bool true) w := fun _ => by kernel_rfl
  have i1 : ∀ w, (Instr.index 78 (.agg #[.bool true, .bool false]) (.int .i64 1)).run Tryd.prog w = .ok (.bool false) w := fun _ => by kernel_rfl
  clear hr hc hg h h2
  go_enter Tryd.func38, Tryd.ntmps38
  go_wp2
  go_loopg [10] 3 (fun kq v10 wr => ∃ (j : Int) (b1 b2 : Bool), v10 = .int .i64 j ∧ Aside0 (j = 0 ∧ kq = 3 ∨ j = 1 ∧ kq = 2 ∨ j = 2 ∧ kq = 1) ∧ Aside0 (St l j b1 b2) ∧ Aside0 (DocAt wr g e0 b1 b2 (.slice none 0 0)) ∧ Aside0 (Below g w wr))
  case atStart => exact ⟨0, true, false, rfl, ⟨.inl ⟨rfl, rfl⟩⟩, ⟨fun _ => rfl, fun h => by omega, fun h => by omega⟩, ⟨HG.out.set1 true⟩, ⟨(Below.refl _ _).setCell (Nat.le_refl g) _⟩⟩
  case round =>
    clear c1 f1
    obtain ⟨j, b1, b2, rfl, HJ, HS, HD, HB⟩ := hrel
    rcases HJ.out with ⟨rfl, rfl⟩ | ⟨rfl, rfl⟩ | ⟨rfl, rfl⟩
    · obtain ⟨m, hm⟩ : ∃ m : List Int, m = [254, 255] := ⟨_, rfl⟩
      have HM := Aside0.mk hm
      clear hm
      go_wp2_with (fail)
      refine (mark_calls true _).mono ?_
      rintro e w1 ⟨v, rfl, hR, hB⟩
      rw [if_pos rfl, ← HM.out] at hR
      obtain ⟨Am, cm, rfl⟩ := Kd.R_slice hR
      have hD1 := HD.out.below hB
      have hB1 := HB.out.trans (hB.mono (Nat.le_of_lt HD.out.lt))
      have key := hasPrefix_calls A c l Am cm m w1 (HR.out _ hB1) HC.out (Kd.R_reads' hR).2.2 (Kd.R_reads' hR).2.1
      have KEY := Aside0.mk key
      have HD1 := Aside0.mk hD1
      have HB1 := Aside0.mk hB1
      have c1 := hD1.c1
      have f1 := hD1.f 1
      have c2 := hD1.c2
      have f2 := hD1.f 2
      clear key hR hB hD1 hB1
      cases hp : pfx l m with
      | true =>
        have HP := Aside0.mk hp
        rw [hp] at KEY
        clear hp
        go_wp2_with (go_at_call 53; refine KEY.out.mono ?_; rintro e w' ⟨rfl, ⟨nd, rfl⟩⟩)
        go_roundg 2
        case measure => omega
        case rel => exact ⟨1, true, true, rfl, ⟨by omega⟩, ⟨fun h => absurd h (by decide), fun _ => by (unfold s1; rw [if_pos (HM.out ▸ HP.out)]), fun h => absurd h (by decide)⟩, ⟨(HD1.out.set1 true).set2 true⟩, ⟨((pw_below_drewN HB1.out nd).setCell (Nat.le_refl g) _).setCell (Nat.le_refl g) _⟩⟩
      | false =>
        have HP := Aside0.mk hp
        rw [hp] at KEY
        clear hp
        go_wp2_with (go_at_call 53; refine KEY.out.mono ?_; rintro e w' ⟨rfl, ⟨nd, rfl⟩⟩)
        go_roundg 2
        case measure => omega
        case rel => exact ⟨1, b1, b2, rfl, ⟨by omega⟩, ⟨fun h => absurd h (by decide), fun _ => by (unfold s1; rw [if_neg (by rw [← HM.out, HP.out]; exact Bool.false_ne_true)]; exact HS.out.1 rfl), fun h => absurd h (by decide)⟩, ⟨HD1.out⟩, ⟨pw_below_drewN HB1.out nd⟩⟩
    · obtain ⟨m, hm⟩ : ∃ m : List Int, m = [255, 254] := ⟨_, rfl⟩
      have HM := Aside0.mk hm
      clear hm
      go_wp2_with (fail)
      refine (mark_calls false _).mono ?_
      rintro e w1 ⟨v, rfl, hR, hB⟩
      rw [if_neg Bool.false_ne_true, ← HM.out] at hR
      obtain ⟨Am, cm, rfl⟩ := Kd.R_slice hR
      have hD1 := HD.out.below hB
      have hB1 := HB.out.trans (hB.mono (Nat.le_of_lt HD.out.lt))
      have key := hasPrefix_calls A c l Am cm m w1 (HR.out _ hB1) HC.out (Kd.R_reads' hR).2.2 (Kd.R_reads' hR).2.1
      have KEY := Aside0.mk key
      have HD1 := Aside0.mk hD1
      have HB1 := Aside0.mk hB1
      have c1 := hD1.c1
      have f1 := hD1.f 1
      have c2 := hD1.c2
      have f2 := hD1.f 2
      clear key hR hB hD1 hB1
      cases hp : pfx l m with
      | true =>
        have HP := Aside0.mk hp
        rw [hp] at KEY
        clear hp
        go_wp2_with (go_at_call 53; refine KEY.out.mono ?_; rintro e w' ⟨rfl, ⟨nd, rfl⟩⟩)
        go_roundg 1
        case measure => omega
        case rel => exact ⟨2, false, true, rfl, ⟨by omega⟩, ⟨fun h => absurd h (by decide), fun h => absurd h (by decide), fun _ => by (unfold s2; rw [if_pos (HM.out ▸ HP.out)])⟩, ⟨(HD1.out.set1 false).set2 true⟩, ⟨((pw_below_drewN HB1.out nd).setCell (Nat.le_refl g) _).setCell (Nat.le_refl g) _⟩⟩
      | false =>
        have HP := Aside0.mk hp
        rw [hp] at KEY
        clear hp
        go_wp2_with (go_at_call 53; refine KEY.out.mono ?_; rintro e w' ⟨rfl, ⟨nd, rfl⟩⟩)
        go_roundg 1
        case measure => omega
        case rel => exact ⟨2, b1, b2, rfl, ⟨by omega⟩, ⟨fun h => absurd h (by decide), fun h => absurd h (by decide), fun _ => by (unfold s2; rw [if_neg (by rw [← HM.out, HP.out]; exact Bool.false_ne_true)]; exact HS.out.2.1 rfl)⟩, ⟨HD1.out⟩, ⟨pw_below_drewN HB1.out nd⟩⟩
    · have hs := HS.out.2.2 rfl
      have hS1 : (s2 l).1 = b1 := by rw [← hs]
      have hS2 : (s2 l).2 = b2 := by rw [← hs]
      rw [hS1, hS2] at H
      rw [hS2] at H2
      have E1 := Aside0.mk hS1
      have E2 := Aside0.mk hS2
      have c1 := HD.out.c1
      have c2 := HD.out.c2
      clear hs hS1 hS2
      cases b2 with
      | true =>
        obtain ⟨i2, hi2, _, hsz2, _⟩ := info_parts info_byte
        obtain ⟨A2, hcut, hA2, hC2⟩ := print_drop_of (P := Tryd.prog) (Value.int .u8) 0 22 5 .i64 Tryd.underlying22 hi2 hsz2 A c l 2 (by decide) (by have := H2.out rfl; omega) HC.out
        have hr2 : Kd.C (Kd.int .u8) wr A2 (l.drop (2 : Int).toNat).length (l.drop (2 : Int).toNat) := Kd.C_of_reads (h1 := fun _ => rfl) (hA2 _ (Kd.reads_of_C (HR.out _ HB.out)))
        have e2 : ((2 : Int)).toNat = 2 := rfl
        have hH := H.out
        rw [if_pos rfl] at hH
        rw [e2] at hcut hr2 hC2
        obtain ⟨y, hy⟩ : ∃ y, y = l.drop 2 := ⟨_, rfl⟩
        obtain ⟨c', hc'⟩ : ∃ c', c' = c - 2 := ⟨_, rfl⟩
        rw [← hy] at hcut hr2 hC2 hH
        rw [← hc'] at hcut hC2
        have KEY := Aside0.mk (dec16_calls k A2 c' y b1 r wr hr2 hC2 hH)
        clear hH hr2 hC2 hA2 hy hc' e2 hi2 hsz2
        go_wp2_with (go_at_call 55; refine KEY.out.mono ?_; rintro e w1 ⟨v, rfl, hR, hB⟩; obtain ⟨A3, c3', rfl⟩ := Kd.R_slice hR; have END := Aside0.mk (doc_end HD.out HB.out.size HB.out hR hB); have hd := HD.out.below hB; have c3 := hd.c3; have f3 := hd.f 3; clear hR hB hd c1 c2)
        go_end0
        exact ⟨rfl, _, E1.out ▸ E2.out ▸ END.out⟩
      | false =>
        have hH := H.out
        rw [if_neg Bool.false_ne_true] at hH
        have KEY := Aside0.mk (dec16_calls k A c l b1 r wr (HR.out _ HB.out) HC.out hH)
        clear hH
        go_wp2_with (go_at_call 55; refine KEY.out.mono ?_; rintro e w1 ⟨v, rfl, hR, hB⟩; obtain ⟨A3, c3', rfl⟩ := Kd.R_slice hR; have END := Aside0.mk (doc_end HD.out HB.out.size HB.out hR hB); have hd := HD.out.below hB; have c3 := hd.c3; have f3 := hd.f 3; clear hR hB hd c1 c2)
        go_end0
        exact ⟨rfl, _, E1.out ▸ E2.out ▸ END.out⟩
#print axioms decode16_calls
#print axioms hasPrefix_calls
end Go.Proofs.YtcofbakhhcgbfaaDoor.EC
