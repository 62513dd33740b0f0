/- redactor/codec.Encode at every document: it returns what the plain function 'codec_Encode.f' says. No conditions beyond the document's cells being readable. -/
import Derived.Test.YtcofbakhhcgbfaaDoorExtIndex
import Derived.Test.YtcofbakhhcgbfaaDoorExtWays
import Derived.Test.YtcofbakhhcgbfaaDoorPM3
import Derived.Test.YtcofbakhhcgbfaaDoorPM4
import Derived.Outline
import Derived.Laws.EntriesVeiled
import Derived.Deep.RegionHeld3
namespace Go.Proofs.YtcofbakhhcgbfaaDoor.PX
open Go.RowKit Go.Proofs.YtcofbakhhcgbfaaDoorW.PrintWords Go.Proofs.YtcofbakhhcgbfaaDoorW.PrintLast Go.Proofs.YtcofbakhhcgbfaaDoorW.PrintMore
open EC
set_option linter.unusedVariables false

def codec_Encode.f (k : Nat) (a0 : Int) (a1 a2 : Bool) (l : List Int) : Option (List Int × Int) :=
  if l.length < 35184372088832 then (
    if a0 = 1 ∨ a0 = 2 ∨ a0 = 3 then (
      if a0 ≠ 2 ∧ (a1 = true ∨ a2 = true) then some ([], 1)
      else if l.all good = false then some ([], 10)
      else if a0 = 1 then PM.codec_ways_2.f k a0 a1 a2 l
      else if a0 = 2 then PM.codec_encode16.f k a0 a1 a2 l
      else PM.codec_encode1.f k a0 a1 a2 l)
    else some ([], 1))
  else none
theorem codec_Encode.mono : ∀ a0 a1 a2 a3 k, LeO (codec_Encode.f k a0 a1 a2 a3) (codec_Encode.f (k + 1) a0 a1 a2 a3) := by
  intro a0 a1 a2 a3 k
  unfold codec_Encode.f
  exact LeO.ite (LeO.ite (LeO.ite (LeO.refl _) (LeO.ite (LeO.refl _) (LeO.ite (PM.codec_ways_2.mono _ _ _ _ _) (LeO.ite (PM.codec_encode16.mono _ _ _ _ _) (PM.codec_encode1.mono _ _ _ _ _))))) (LeO.refl _)) (LeO.refl _)

/-- The end of Encode. -/
def EncEnd (w : World) (l : List Int) (er : Int) (e : Ending) (w' : World) : Prop :=
  ∃ v0_ : Value, e = .returned (.tuple #[v0_, .int .u16 er]) ∧ Kd.R (Kd.int .u8) 5 w' w.heap.size (fun _ => True) v0_ l ∧ Below w.heap.size w w'

theorem alloc_at (w : World) (a : Obj) : (w.alloc a).heap[w.heap.size]? = some a := by show (w.heap.push a)[w.heap.size]? = _; simp
theorem three_B (w : World) (a b c : Obj) : Below w.heap.size w ((((w.alloc a).alloc b).alloc c).drew) := by
  have s1 : (w.alloc a).heap.size = w.heap.size + 1 := Array.size_push _
  have s2 : ((w.alloc a).alloc b).heap.size = w.heap.size + 1 + 1 := (Array.size_push _).trans (congrArg (· + 1) s1)
  exact ((((Below.refl _ _).alloc (Nat.le_refl _) a).alloc (by omega) b).alloc (by omega) c).drew
theorem three_N (w : World) (a b c : Obj) (n : Nat) : Below w.heap.size w ((((w.alloc a).alloc b).alloc c).drewN n) := by
  have s1 : (w.alloc a).heap.size = w.heap.size + 1 := Array.size_push _
  have s2 : ((w.alloc a).alloc b).heap.size = w.heap.size + 1 + 1 := (Array.size_push _).trans (congrArg (· + 1) s1)
  exact ((((Below.refl _ _).alloc (Nat.le_refl _) a).alloc (by omega) b).alloc (by omega) c).trans (Drawn0.below (Drawn0.mk ⟨n, rfl⟩) |>.mono (by rw [show (((w.alloc a).alloc b).alloc c).heap.size = w.heap.size + 1 + 1 + 1 from (Array.size_push _).trans (congrArg (· + 1) s2)]; omega))
theorem three_C {w : World} {A : Option Addr} {l : List Int} (hr : Kd.C (Kd.int .i32) w A l.length l) (a b c : Obj) : Kd.C (Kd.int .i32) ((((w.alloc a).alloc b).alloc c).drew) A l.length l :=
  (Kd.heap_int .i32).C (fun k hk => (three_B w a b c).block k hk) hr
theorem size1 (w : World) (a : Obj) : (w.alloc a).heap.size = w.heap.size + 1 := Array.size_push _
theorem put0 (w : World) (a b : Obj) : (((w.alloc a).alloc b).drew).heap[w.heap.size + 1]? = some b := by
  show ((w.alloc a).alloc b).heap[w.heap.size + 1]? = some b
  rw [← size1 w a]; exact alloc_at _ _
theorem put1 (w : World) (a b c : Obj) : ((((w.alloc a).alloc b).alloc c).drew).heap[w.heap.size + 1]? = some b := by
  show (((w.alloc a).alloc b).alloc c).heap[w.heap.size + 1]? = some b
  rw [Below.heap_alloc _ _ _ (by show _ < ((w.alloc a).heap.push b).size; rw [Array.size_push, size1]; omega)]
  exact put0 w a b
theorem put2 (w : World) (a b c : Obj) : ((((w.alloc a).alloc b).alloc c).drew).heap[w.heap.size + 1 + 1]? = some c := by
  show (((w.alloc a).alloc b).alloc c).heap[w.heap.size + 1 + 1]? = some c
  have e : w.heap.size + 1 + 1 = ((w.alloc a).alloc b).heap.size := by show _ = ((w.alloc a).heap.push b).size; rw [Array.size_push, size1]
  rw [e]; exact alloc_at _ _

theorem enc_end {w W w3 : World} {v : Value} {l : List Int} {er : Int} (h : Below w.heap.size w W) (hR : Kd.R (Kd.int .u8) 5 w3 W.heap.size (fun _ => True) v l) (hB : Below W.heap.size W w3) : EncEnd w l er (.returned (.tuple #[v, .int .u16 er])) w3 :=
  ⟨v, rfl, Kd.R_lower hR h.size, h.trans (hB.mono h.size)⟩

theorem EncEnd.shape {w w3 : World} {l : List Int} {er : Int} {e : Ending} (h : EncEnd w l er e w3) : ∃ v, e = .returned (.tuple #[v, .int .u16 er]) := let ⟨v, h, _⟩ := h; ⟨v, h⟩
theorem enc_three {w : World} {fe : Nat} {x : Value} {r : List Int} {er : Int} (h : ∀ W : World, Below w.heap.size w W → Calls Tryd.prog fe #[x] W (EncEnd W r er)) (a b c : Obj) (n : Nat) : Calls Tryd.prog fe #[x] ((((w.alloc a).alloc b).alloc c).drewN n) (EncEnd w r er) := by
  refine (h _ (three_N w a b c n)).mono ?_
  rintro e w3 ⟨v, rfl, hR, hB⟩
  exact enc_end (three_N w a b c n) hR hB

set_option maxHeartbeats 4000000 in
set_option maxRecDepth 100000 in
theorem enc_way (w : World) (A : Option Addr) (c : Nat) (l r : List Int) (er en : Int) (b1 b2 : Bool) (nm : ByteArray) (fd fe : Nat)
    (hl : ∀ (W : World) (m : Nat), W.heap[m]? = some (.map entries 3) → (Instr.lookup 57 (.map (some m)) (.int .u8 en) true).run Tryd.prog W = .ok (.tuple #[.agg #[.string nm, .func (.func fd) #[] #[], .func (.func fe) #[] #[]], .bool true]) W)
    (hr : Kd.C (Kd.int .i32) w A l.length l) (hlen : l.length < 35184372088832) (hmode : (en = 2 ∧ fe = 39) ∨ (en = 1 ∧ fe = 36 ∧ b1 = false ∧ b2 = false) ∨ (en = 3 ∧ fe = 41 ∧ b1 = false ∧ b2 = false)) (hall : l.all good = true)
    (hcall : ∀ W : World, Below w.heap.size w W → Calls Tryd.prog fe #[.agg #[.int .u8 en, .bool b1, .bool b2, .slice A l.length c]] W (EncEnd W r er)) :
    Calls Tryd.prog 13 #[.agg #[.int .u8 en, .bool b1, .bool b2, .slice A l.length c]] w (EncEnd w r er) := by
  have HCALL := Aside0.mk (enc_three hcall)
  have HL := Aside0.mk hl
  have HR := Aside0.mk hr
  have HLEN := Aside0.mk hlen
  have HMODE := Aside0.mk hmode
  have HALL := Aside0.mk hall
  clear hcall hl hr hlen hmode hall
  go_enter Tryd.func13, Tryd.ntmps13
  go_wp2_with (fail)
  have LA := fun Z => HL.out ((((w.alloc (.cells #[.int .u8 en, .bool b1, .bool b2, .slice A l.length c] 29)).alloc (.map entries 3)).alloc Z).drew) (w.heap.size + 1) (put1 _ _ _ _)
  have LB := fun Z => HL.out ((((w.alloc (.cells #[.int .u8 en, .bool b1, .bool b2, .slice A l.length c] 29)).alloc Z).alloc (.map entries 3)).drew) (w.heap.size + 1 + 1) (put2 _ _ _ _)
  have LC := HL.out (((w.alloc (.cells #[.int .u8 en, .bool b1, .bool b2, .slice A l.length c] 29)).alloc (.map entries 3)).drew) (w.heap.size + 1) (put0 _ _ _)
  go_region_held3 (fun W => W.cell? ⟨w.heap.size, 0, none⟩ = some (.int .u8 en)) (first | go_keep | (simp [go_sem, World.cell?_alloc_past])) (first | (go_at_call 25; refine (ways_calls _).mono ?_; rintro e w1 ⟨rfl, rfl⟩))
  all_goals clear LA LB LC
  all_goals
    rcases HMODE.out with ⟨rfl, rfl⟩ | ⟨rfl, rfl, rfl, rfl⟩ | ⟨rfl, rfl, rfl, rfl⟩
    all_goals
      go_wp2_with (first | (go_at_call 26; refine (contains_calls A c l _ (three_C HR.out _ _ _) HLEN.out).mono ?_; rintro e w2 ⟨rfl, ⟨n, rfl⟩⟩; simp only [HALL.out, Bool.not_true]))
      refine (HCALL.out _ _ _ _).mono ?_
      rintro e w3 hend
      obtain ⟨v, rfl⟩ := hend.shape
      have END := Aside0.mk hend
      clear hend
      go_wp2
      go_ret2
      exact END.out

theorem enc_nil {w w3 : World} {er : Int} (h : Below w.heap.size w w3) : EncEnd w [] er (.returned (.tuple #[.slice none 0 0, .int .u16 er])) w3 := ⟨_, rfl, Kd.R_nil _ _ _ _ _, h⟩

set_option maxHeartbeats 4000000 in
set_option maxRecDepth 100000 in
theorem enc_mode (w : World) (A : Option Addr) (c : Nat) (l : List Int) (en : Int) (b1 b2 : Bool) (nm : ByteArray) (fd fe : Nat)
    (hl : ∀ (W : World) (m : Nat), W.heap[m]? = some (.map entries 3) → (Instr.lookup 57 (.map (some m)) (.int .u8 en) true).run Tryd.prog W = .ok (.tuple #[.agg #[.string nm, .func (.func fd) #[] #[], .func (.func fe) #[] #[]], .bool true]) W)
    (hmode : (en = 1 ∧ b1 = true) ∨ (en = 1 ∧ b1 = false ∧ b2 = true) ∨ (en = 3 ∧ b1 = true) ∨ (en = 3 ∧ b1 = false ∧ b2 = true)) :
    Calls Tryd.prog 13 #[.agg #[.int .u8 en, .bool b1, .bool b2, .slice A l.length c]] w (EncEnd w [] 1) := by
  have HL := Aside0.mk hl
  have HMODE := Aside0.mk hmode
  clear hl hmode
  go_enter Tryd.func13, Tryd.ntmps13
  go_wp2_with (fail)
  have LA := fun Z => HL.out ((((w.alloc (.cells #[.int .u8 en, .bool b1, .bool b2, .slice A l.length c] 29)).alloc (.map entries 3)).alloc Z).drew) (w.heap.size + 1) (put1 _ _ _ _)
  have LB := fun Z => HL.out ((((w.alloc (.cells #[.int .u8 en, .bool b1, .bool b2, .slice A l.length c] 29)).alloc Z).alloc (.map entries 3)).drew) (w.heap.size + 1 + 1) (put2 _ _ _ _)
  have LC := HL.out (((w.alloc (.cells #[.int .u8 en, .bool b1, .bool b2, .slice A l.length c] 29)).alloc (.map entries 3)).drew) (w.heap.size + 1) (put0 _ _ _)
  go_region_held3 (fun W => W.cell? ⟨w.heap.size, 0, none⟩ = some (.int .u8 en)) (first | go_keep | (simp [go_sem, World.cell?_alloc_past])) (first | (go_at_call 25; refine (ways_calls _).mono ?_; rintro e w1 ⟨rfl, rfl⟩))
  all_goals clear LA LB LC
  all_goals
    rcases HMODE.out with ⟨rfl, rfl⟩ | ⟨rfl, rfl, rfl⟩ | ⟨rfl, rfl⟩ | ⟨rfl, rfl, rfl⟩
    all_goals
      go_wp2
      go_ret2
      exact enc_nil (three_B _ _ _ _)

set_option maxHeartbeats 4000000 in
set_option maxRecDepth 100000 in
theorem enc_no (w : World) (A : Option Addr) (c : Nat) (l : List Int) (en : Int) (b1 b2 : Bool) (h1 : en ≠ 1) (h2 : en ≠ 2) (h3 : en ≠ 3) :
    Calls Tryd.prog 13 #[.agg #[.int .u8 en, .bool b1, .bool b2, .slice A l.length c]] w (EncEnd w [] 1) := by
  have HL := Aside0.mk (fun (W : World) (m : Nat) hm => look_no W m hm en h1 h2 h3)
  clear h1 h2 h3
  go_enter Tryd.func13, Tryd.ntmps13
  go_wp2_with (fail)
  have LA := fun Z => HL.out ((((w.alloc (.cells #[.int .u8 en, .bool b1, .bool b2, .slice A l.length c] 29)).alloc (.map entries 3)).alloc Z).drew) (w.heap.size + 1) (put1 _ _ _ _)
  have LB := fun Z => HL.out ((((w.alloc (.cells #[.int .u8 en, .bool b1, .bool b2, .slice A l.length c] 29)).alloc Z).alloc (.map entries 3)).drew) (w.heap.size + 1 + 1) (put2 _ _ _ _)
  have LC := HL.out (((w.alloc (.cells #[.int .u8 en, .bool b1, .bool b2, .slice A l.length c] 29)).alloc (.map entries 3)).drew) (w.heap.size + 1) (put0 _ _ _)
  go_region_held3 (fun W => W.cell? ⟨w.heap.size, 0, none⟩ = some (.int .u8 en)) (first | go_keep | (simp [go_sem, World.cell?_alloc_past])) (first | (go_at_call 25; refine (ways_calls _).mono ?_; rintro e w1 ⟨rfl, rfl⟩))
  all_goals clear LA LB LC
  all_goals
    go_wp2
    go_ret2
    exact enc_nil (three_B _ _ _ _)

set_option maxHeartbeats 4000000 in
set_option maxRecDepth 100000 in
theorem enc_cell (w : World) (A : Option Addr) (c : Nat) (l : List Int) (en : Int) (b1 b2 : Bool) (nm : ByteArray) (fd fe : Nat)
    (hl : ∀ (W : World) (m : Nat), W.heap[m]? = some (.map entries 3) → (Instr.lookup 57 (.map (some m)) (.int .u8 en) true).run Tryd.prog W = .ok (.tuple #[.agg #[.string nm, .func (.func fd) #[] #[], .func (.func fe) #[] #[]], .bool true]) W)
    (hr : Kd.C (Kd.int .i32) w A l.length l) (hlen : l.length < 35184372088832) (hmode : en = 2 ∨ (en = 1 ∧ b1 = false ∧ b2 = false) ∨ (en = 3 ∧ b1 = false ∧ b2 = false)) (hall : l.all good = false) :
    Calls Tryd.prog 13 #[.agg #[.int .u8 en, .bool b1, .bool b2, .slice A l.length c]] w (EncEnd w [] 10) := by
  have HL := Aside0.mk hl
  have HR := Aside0.mk hr
  have HLEN := Aside0.mk hlen
  have HMODE := Aside0.mk hmode
  have HALL := Aside0.mk hall
  clear hl hr hlen hmode hall
  go_enter Tryd.func13, Tryd.ntmps13
  go_wp2_with (fail)
  have LA := fun Z => HL.out ((((w.alloc (.cells #[.int .u8 en, .bool b1, .bool b2, .slice A l.length c] 29)).alloc (.map entries 3)).alloc Z).drew) (w.heap.size + 1) (put1 _ _ _ _)
  have LB := fun Z => HL.out ((((w.alloc (.cells #[.int .u8 en, .bool b1, .bool b2, .slice A l.length c] 29)).alloc Z).alloc (.map entries 3)).drew) (w.heap.size + 1 + 1) (put2 _ _ _ _)
  have LC := HL.out (((w.alloc (.cells #[.int .u8 en, .bool b1, .bool b2, .slice A l.length c] 29)).alloc (.map entries 3)).drew) (w.heap.size + 1) (put0 _ _ _)
  go_region_held3 (fun W => W.cell? ⟨w.heap.size, 0, none⟩ = some (.int .u8 en)) (first | go_keep | (simp [go_sem, World.cell?_alloc_past])) (first | (go_at_call 25; refine (ways_calls _).mono ?_; rintro e w1 ⟨rfl, rfl⟩))
  all_goals clear LA LB LC
  all_goals
    rcases HMODE.out with rfl | ⟨rfl, rfl, rfl⟩ | ⟨rfl, rfl, rfl⟩
    all_goals
      go_wp2_with (first | (go_at_call 26; refine (contains_calls A c l _ (three_C HR.out _ _ _) HLEN.out).mono ?_; rintro e w2 ⟨rfl, ⟨n, rfl⟩⟩; simp only [HALL.out, Bool.not_false]))
      go_ret2
      exact enc_nil (three_N _ _ _ _ _)

theorem codec_Encode.calls (k : Nat) (a0_0 : Int) (a0_1 : Bool) (a0_2 : Bool) (A0_3 : Option Addr) (c0_3 : Nat) (l0_3 : List Int) (r1 : List Int) (r2 : Int) (w : World) (hr0_3 : Kd.C (Kd.int .i32) w A0_3 l0_3.length l0_3) (hc0_3 : l0_3.length ≤ c0_3) (h : codec_Encode.f k a0_0 a0_1 a0_2 l0_3 = some (r1, r2)) :
    Calls Tryd.prog 13 #[.agg #[.int .u8 a0_0, .bool a0_1, .bool a0_2, .slice A0_3 l0_3.length c0_3]] w fun e w' => ∃ v0_ : Value, e = .returned (.tuple #[v0_, .int .u16 r2]) ∧ Kd.R (Kd.int .u8) 5 w' w.heap.size (fun _ => True) v0_ r1 ∧ Below w.heap.size w w' := by
  unfold codec_Encode.f at h
  by_cases hlen : l0_3.length < 35184372088832
  case neg => rw [if_neg hlen] at h; cases h
  rw [if_pos hlen] at h
  by_cases hen : a0_0 = 1 ∨ a0_0 = 2 ∨ a0_0 = 3
  case neg =>
    rw [if_neg hen] at h; cases h
    exact enc_no w A0_3 c0_3 l0_3 a0_0 a0_1 a0_2 (fun h => hen (.inl h)) (fun h => hen (.inr (.inl h))) (fun h => hen (.inr (.inr h)))
  rw [if_pos hen] at h
  by_cases hm : a0_0 ≠ 2 ∧ (a0_1 = true ∨ a0_2 = true)
  · rw [if_pos hm] at h; cases h
    have hb : a0_1 = true ∨ (a0_1 = false ∧ a0_2 = true) := by cases a0_1 <;> simp_all
    rcases hen with rfl | rfl | rfl
    · exact enc_mode w A0_3 c0_3 l0_3 1 a0_1 a0_2 _ _ _ look1 (hb.elim (fun q => .inl ⟨rfl, q⟩) (fun q => .inr (.inl ⟨rfl, q⟩)))
    · exact absurd rfl hm.1
    · exact enc_mode w A0_3 c0_3 l0_3 3 a0_1 a0_2 _ _ _ look3 (hb.elim (fun q => .inr (.inr (.inl ⟨rfl, q⟩))) (fun q => .inr (.inr (.inr ⟨rfl, q⟩))))
  rw [if_neg hm] at h
  have hb : a0_0 = 2 ∨ (a0_1 = false ∧ a0_2 = false) := by
    by_cases q : a0_0 = 2
    · exact .inl q
    · refine .inr ?_
      cases a0_1 <;> cases a0_2 <;> simp_all
  clear hm
  have key : ∀ W : World, Below w.heap.size w W → Kd.C (Kd.int .i32) W A0_3 l0_3.length l0_3 := fun W hW => (Kd.heap_int .i32).C (fun k hk => hW.block k hk) hr0_3
  by_cases hall : l0_3.all good = false
  · rw [if_pos hall] at h; cases h
    rcases hen with rfl | rfl | rfl
    · exact enc_cell w A0_3 c0_3 l0_3 1 a0_1 a0_2 _ _ _ look1 hr0_3 hlen (.inr (.inl ⟨rfl, hb.resolve_left (by decide)⟩)) hall
    · exact enc_cell w A0_3 c0_3 l0_3 2 a0_1 a0_2 _ _ _ look2 hr0_3 hlen (.inl rfl) hall
    · exact enc_cell w A0_3 c0_3 l0_3 3 a0_1 a0_2 _ _ _ look3 hr0_3 hlen (.inr (.inr ⟨rfl, hb.resolve_left (by decide)⟩)) hall
  rw [if_neg hall] at h
  have hall2 : l0_3.all good = true := by simpa using hall
  rcases hen with rfl | rfl | rfl
  · rw [if_pos rfl] at h
    exact enc_way w A0_3 c0_3 l0_3 r1 r2 1 a0_1 a0_2 _ _ _ look1 hr0_3 hlen (.inr (.inl ⟨rfl, rfl, hb.resolve_left (by decide)⟩)) hall2 (fun W hW => PM.codec_ways_2.calls k 1 a0_1 a0_2 A0_3 c0_3 l0_3 r1 r2 W (key W hW) hc0_3 h)
  · rw [if_neg (by decide), if_pos rfl] at h
    exact enc_way w A0_3 c0_3 l0_3 r1 r2 2 a0_1 a0_2 _ _ _ look2 hr0_3 hlen (.inl ⟨rfl, rfl⟩) hall2 (fun W hW => PM.codec_encode16.calls k 2 a0_1 a0_2 A0_3 c0_3 l0_3 r1 r2 W (key W hW) hc0_3 h)
  · rw [if_neg (by decide), if_neg (by decide)] at h
    exact enc_way w A0_3 c0_3 l0_3 r1 r2 3 a0_1 a0_2 _ _ _ look3 hr0_3 hlen (.inr (.inr ⟨rfl, rfl, hb.resolve_left (by decide)⟩)) hall2 (fun W hW => PM.codec_encode1.calls k 3 a0_1 a0_2 A0_3 c0_3 l0_3 r1 r2 W (key W hW) hc0_3 h)
#print axioms codec_Encode.calls
end Go.Proofs.YtcofbakhhcgbfaaDoor.PX
