/- unicode/utf8.DecodeRune at every slice of bytes: it returns what the plain function 'utf8_DecodeRune.f' says. Condition: the library's two tables stand in memory. -/
import Derived.Test.YtcofbakhhcgbfaaDoorPD0
import Derived.Test.YtcofbakhhcgbfaaDoorPureDec
import Derived.Test.YtcofbakhhcgbfaaDoorExtGl
import Derived.Test.YtcofbakhhcgbfaaDoorShelf
import Derived.Shelf.Spec.DecodeRune
namespace Go.Proofs.YtcofbakhhcgbfaaDoor.PD
open Go.RowKit Go.Proofs.YtcofbakhhcgbfaaDoorW.PrintWords Go.Proofs.YtcofbakhhcgbfaaDoorW.PrintLast Go.Proofs.YtcofbakhhcgbfaaDoorW.PrintMore
open Utf (decP)
set_option linter.unusedVariables false

def utf8_DecodeRune.f (l : List Int) : Option (Int × Int) := if (∀ x ∈ l, 0 ≤ x ∧ x < 256) then some (decP l) else none

/-- The bytes as the library's contract wants them. -/
def toB (l : List Int) : ByteArray := ⟨(l.map fun x => UInt8.ofNat x.toNat).toArray⟩
theorem toB_size (l : List Int) : (toB l).size = l.length := by
  show ((l.map fun x => UInt8.ofNat x.toNat).toArray).size = _
  simp
theorem toB_get (l : List Int) (hl : ∀ x ∈ l, 0 ≤ x ∧ x < 256) (j : Nat) (hj : j < l.length) : (((toB l).get! j).toNat : Int) = rd l j := by
  have e : (toB l).get! j = UInt8.ofNat (l[j]).toNat := by
    show ((l.map fun x => UInt8.ofNat x.toNat).toArray)[j]! = _
    rw [getElem!_pos _ _ (by simpa using hj)]
    simp
  have hx := hl l[j] (List.getElem_mem hj)
  rw [e]
  have e2 : rd l (j : Int) = l[j] := by
    unfold rd
    simp [List.getElem?_eq_getElem hj]
  rw [e2, UInt8.toNat_ofNat']
  omega
theorem toB_out (l : List Int) (j : Nat) (hj : l.length ≤ j) : (((toB l).get! j).toNat : Int) = rd l j := by
  have e : (toB l).get! j = default := by
    show ((l.map fun x => UInt8.ofNat x.toNat).toArray)[j]! = _
    rw [getElem!_neg _ _ (by simpa using hj)]
  rw [e]
  have e2 : rd l (j : Int) = 0 := by
    unfold rd
    simp [List.getElem?_eq_none hj]
  rw [e2]
  rfl
theorem toB_at (l : List Int) (hl : ∀ x ∈ l, 0 ≤ x ∧ x < 256) (j : Nat) : ((toB l).get! j).toNat = (rd l j).toNat := by
  by_cases h : j < l.length
  · have := toB_get l hl j h; omega
  · have := toB_out l j (by omega); omega
theorem decodeGo_toB (l : List Int) (hl : ∀ x ∈ l, 0 ≤ x ∧ x < 256) : (((Lib.decodeGo (toB l)).1 : Int), ((Lib.decodeGo (toB l)).2 : Int)) = decP l := by
  unfold Lib.decodeGo decP
  rw [toB_size]
  by_cases h0 : l.length = 0
  · rw [if_pos h0, if_pos h0]; rfl
  · rw [if_neg h0, if_neg h0, Lib.decode_at, toB_size]
    have a0 := toB_at l hl 0
    have a1 := toB_at l hl 1
    have a2 := toB_at l hl 2
    have a3 := toB_at l hl 3
    simp only [Nat.zero_add, Nat.sub_zero, a0, a1, a2, a3]
    rfl

set_option maxHeartbeats 1000000 in
set_option maxRecDepth 1000000 in
theorem slow_empty (A0 : Option Addr) (c0 : Nat) (w : World) :
    Calls Tryd.prog 61 #[.slice A0 0 c0] w fun e w' => e = .returned (.tuple #[.int .i32 65533, .int .i64 0]) ∧ w' = w := by
  go_enter Tryd.func61, Tryd.ntmps61
  go_wp2
  go_ret2
  exact ⟨rfl, rfl⟩

set_option maxHeartbeats 1000000 in
set_option maxRecDepth 1000000 in
theorem rune_empty (A0 : Option Addr) (c0 : Nat) (w : World) :
    Calls Tryd.prog 49 #[.slice A0 0 c0] w fun e w' => e = .returned (.tuple #[.int .i32 65533, .int .i64 0]) ∧ w' = w := by
  have cS := slow_empty A0 c0 w
  go_enter Tryd.func49, Tryd.ntmps49
  go_wp2
  go_loop [8] (fun i => i = .int .i64 0) (fun _ => 0)
  case atStart => rfl
  case round =>
    subst hrel
    go_wp2_with (go_at_call 61; refine cS.mono ?_; rintro e w' ⟨rfl, rfl⟩)
    go_ret2
    exact ⟨rfl, rfl⟩

theorem utf8_DecodeRune.calls (A0 : Option Addr) (c0 : Nat) (l0 : List Int) (r1 r2 : Int) (w : World) (hr0 : Kd.C (Kd.int .u8) w A0 l0.length l0) (hc0 : l0.length ≤ c0) (hGL : (Lib.Utf8Tabs 0 1) w) (h : utf8_DecodeRune.f l0 = some (r1, r2)) :
    Calls Tryd.prog 49 #[.slice A0 l0.length c0] w fun e w' => e = .returned (.tuple #[.int .i32 r1, .int .i64 r2]) ∧ Below w.heap.size w w' := by
  unfold utf8_DecodeRune.f at h
  by_cases hl : ∀ x ∈ l0, 0 ≤ x ∧ x < 256
  · rw [if_pos hl] at h
    have hd := Option.some.inj h
    by_cases h0 : l0.length = 0
    · unfold decP at hd
      rw [if_pos h0] at hd
      obtain ⟨rfl, rfl⟩ := Prod.mk.inj hd
      rw [h0]
      exact (rune_empty A0 c0 w).mono fun e w' ⟨he, hw⟩ => ⟨he, by rw [hw]; exact Below.refl _ _⟩
    · obtain ⟨ad, rfl, hc⟩ := Kd.at_int hr0 0 (by omega) (by omega)
      obtain ⟨b, off, sp⟩ := ad
      have hsp : sp = none := by
        have e : (Addr.add ⟨b, off, sp⟩ (0 : Int).toNat) = ⟨b, off, sp⟩ := by simp [Addr.add]
        rw [e] at hc
        exact cell_spot hc
      subst hsp
      have key := Any7.utf8_DecodeRune Tryd.lays32 (toB l0) b off c0 w hGL (fun j hj => by
        rw [toB_size] at hj
        obtain ⟨ad, e, hc⟩ := Kd.at_int hr0 j (by omega) (by omega)
        cases e
        have ea : (Addr.add ⟨b, off, none⟩ (j : Int).toNat) = ⟨b, off + j, none⟩ := by simp [Addr.add]
        rw [ea] at hc
        rw [toB_get l0 hl j hj]
        exact hc)
      have e := decodeGo_toB l0 hl
      rw [hd] at e
      obtain ⟨e1, e2⟩ := Prod.mk.inj e
      rw [toB_size, e1, e2] at key
      exact key
  · rw [if_neg hl] at h
    exact absurd h (by simp)
#print axioms utf8_DecodeRune.calls
end Go.Proofs.YtcofbakhhcgbfaaDoor.PD
