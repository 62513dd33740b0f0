/- strings.Join by the shelf's contract, at this program. Conditions: the rows' texts are read, at least one of them; the text is no longer than 2^47 bytes. -/
import Derived.Test.YtceflmoiiiclcaaDoorShelf
import Derived.Test.YtceflmoiiiclcaaDoorWWords
import Derived.Test.YtceflmoiiiclcaaDoorWMore
import Derived.Shelf.Strings.OnBuilder
namespace Go.Proofs.YtceflmoiiiclcaaDoor.EC
open Go.RowKit Go.Proofs.YtceflmoiiiclcaaDoorW.PrintWords
theorem extra : Builder.Extra Tryd.prog Tryd.lays156_ren where
  sizeBuilder := by kernel_rfl
  liesBuilder := by kernel_rfl
  t5 := Tryd.underlying5
  a5 := Tryd.isAgg5
  z5 := Tryd.sizeOf5
  v5 := Tryd.zeroValue5
  infoByte := by kernel_rfl
  cellsByte := by kernel_rfl
  sizeByte := by kernel_rfl
  neB5 := by decide
def joinS (xs : List ByteArray) : ByteArray := ⟨(Lib.join (xs.map (·.data.toList)) [10]).toArray⟩
theorem join_calls (w : World) (base : Nat) (ok : Nat → Prop) (v : Value) (xs : List ByteArray) (hR : Kd.R Kd.string 9 w base ok v xs) (h0 : 0 < xs.length) (hn : xs.length < 1000000) (hl : (Lib.join (xs.map (·.data.toList)) [10]).length ≤ 140737488355328) :
    Calls Tryd.prog 22 #[v, .string ⟨#[10]⟩] w fun e w' => e = .returned (.string (joinS xs)) ∧ Below w.heap.size w w' := by
  obtain ⟨g, cap, rfl, hb, hlt, _⟩ := Kd.R_form hR h0
  obtain ⟨_, hcap, hC⟩ := Kd.R_reads' hR
  refine Any.strings_Join Tryd.lays156 extra g 0 cap xs ⟨#[10]⟩ w ?_ hlt (by omega) hcap hl
  intro j x hx
  have hj : j < xs.length := by
    rcases Nat.lt_or_ge j xs.length with q | q
    · exact q
    · rw [List.getElem?_eq_none q] at hx; cases hx
  obtain ⟨ad, c, e, hcl, hk, hc⟩ := Kd.C_get hC ByteArray.empty (j : Int) (by omega) (by omega)
  have hk2 : c = [.string (xs.getD j ByteArray.empty)] := hk
  subst hk2
  have hq := hc 0 _ rfl
  cases e
  have ex : xs.getD j ByteArray.empty = x := by rw [List.getD_eq_getElem?_getD, hx]; rfl
  rw [ex] at hq
  have e1 : ((j : Int).toNat * Kd.string.sz + 0) = j := by show ((j : Int).toNat * 1 + 0) = j; omega
  rw [e1] at hq
  rcases j with _ | j
  · simpa [Addr.add] using hq
  · simpa [Addr.add] using hq
#print axioms join_calls
end Go.Proofs.YtceflmoiiiclcaaDoor.EC
