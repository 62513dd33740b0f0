/- opts.Parse as a plain function. -/
import Derived.Test.YtceflmoiiiclcaaDoorExtLetters
import Derived.Test.YtceflmoiiiclcaaDoorExtJoin
namespace Go.Proofs.YtceflmoiiiclcaaDoor.EC
open Go.RowKit Go.Proofs.YtceflmoiiiclcaaDoorW.PrintWords Go.Proofs.YtceflmoiiiclcaaDoorW.PrintLast Go.Proofs.YtceflmoiiiclcaaDoorW.PrintMore
set_option linter.unusedVariables false

theorem wordF_len {l : List PX.S54} {k : Int} {t : ByteArray} {s s' : St} {frs frs' : List ByteArray} {er : Int} (h : wordF l k t s frs = some (s', frs', er)) : frs'.length ≤ frs.length + 1 := by
  unfold wordF at h
  split at h
  · cases h; simp
  · split at h
    · split at h
      · cases h; omega
      · obtain ⟨tr, _, he⟩ := Option.map_eq_some_iff.1 h
        cases he
        simp
    · split at h
      · cases h; omega
      · split at h
        · cases h; omega
        · cases h
theorem letF_len {l : List PX.S54} {z : ByteArray} {next : Option ByteArray} : ∀ {d k : Nat} {s s' : St} {frs frs' : List ByteArray} {n er : Int}, letF l z next d k s frs = some (s', frs', n, er) → frs'.length ≤ frs.length + 1 ∧ (er = 0 → n = 1 ∨ (n = 2 ∧ ∃ t, next = some t)) ∧ 0 ≤ n ∧ n ≤ 2
  | 0, _, _, _, _, _, _, _, h => by cases h
  | d + 1, k, s, s', frs, frs', n, er, h => by
    unfold letF at h
    split at h
    · split at h
      · exact letF_len h
      · split at h
        · exact letF_len h
        · split at h
          · exact letF_len h
          · split at h
            · exact letF_len h
            · split at h
              · split at h
                · obtain ⟨⟨s2, f2, e2⟩, hw, he⟩ := Option.map_eq_some_iff.1 h
                  cases he
                  exact ⟨wordF_len hw, fun _ => .inl rfl, by decide, by decide⟩
                · split at h
                  · cases h; exact ⟨by omega, fun q => absurd q (by decide), by decide, by decide⟩
                  · rename_i t
                    obtain ⟨⟨s2, f2, e2⟩, hw, he⟩ := Option.map_eq_some_iff.1 h
                    cases he
                    exact ⟨wordF_len hw, fun _ => .inr ⟨rfl, t, rfl⟩, by decide, by decide⟩
              · cases h; exact ⟨by omega, fun q => absurd q (by decide), by decide, by decide⟩
    · cases h; exact ⟨by omega, fun _ => .inl rfl, by decide, by decide⟩

/-- Arguments from place i on: an error and its place, or what is read. -/
def parseL (l : List PX.S54) : Nat → List ByteArray → Nat → St → List ByteArray → List ByteArray → Option (Sum (Int × Int) (St × List ByteArray × List ByteArray))
  | 0, _, _, _, _, _ => none
  | _ + 1, [], _, s, frs, os => some (.inr (s, frs, os))
  | d + 1, z :: rest, i, s, frs, os =>
    if (z.toList == ([45, 45] : List UInt8)) = true then some (.inr (s, frs, os ++ rest))
    else if 1 < z.size ∧ bt z 0 = 45 then (letF l z rest.head? (z.size + 1) 1 s frs).bind fun r => if r.2.2.2 = 0 then parseL l d ((z :: rest).drop r.2.2.1.toNat) (i + r.2.2.1.toNat) r.1 r.2.1 os else some (.inl (r.2.2.2, (i : Int)))
    else parseL l d rest (i + 1) s frs (os ++ [z])
def st0 : St := ⟨false, false, false, false, 1, ⟨#[]⟩⟩
/-- A job, an error, a place. -/
abbrev PR := Bool × Bool × Bool × Bool × ByteArray × Int × ByteArray × List ByteArray × Int × Int
def noJob (er at_ : Int) : PR := (false, false, false, false, ⟨#[]⟩, 0, ⟨#[]⟩, [], er, at_)
def fin (s : St) (frs os : List ByteArray) : Option PR :=
  if (Lib.join (frs.map (·.data.toList)) [10]).length ≤ 140737488355328 then some (s.q, s.x, s.a, s.i, joinS frs, s.en, s.lo, os, 0, 0) else none
def endF (m : Nat) : Sum (Int × Int) (St × List ByteArray × List ByteArray) → Option PR
  | .inl (er, at_) => some (noJob er at_)
  | .inr (s, frs, os) => match frs with
    | [] => (match os with
      | [] => some (noJob 1 (m : Int))
      | o :: os' => fin s [o] os')
    | _ :: _ => fin s frs os
def parseF (l : List PX.S54) (xs : List ByteArray) : Option PR :=
  if 40 < xs.length then some (noJob 3 0) else (parseL l (xs.length + 1) xs 0 st0 [] []).bind (endF xs.length)
end Go.Proofs.YtceflmoiiiclcaaDoor.EC
namespace Go.Proofs.YtceflmoiiiclcaaDoor.PX
set_option linter.unusedVariables false
open Go.RowKit Go.Proofs.YtceflmoiiiclcaaDoorW.PrintWords Go.Proofs.YtceflmoiiiclcaaDoor.EC
def opts_Parse.f (k : Nat) (xs : List ByteArray) (l : List S54) : Option PR := if (∀ z ∈ xs, z.size < 4611686018427387904) ∧ l.length < 35184372088832 then parseF l xs else none
theorem opts_Parse.mono : ∀ a0 a1 k, LeO (opts_Parse.f k a0 a1) (opts_Parse.f (k + 1) a0 a1) := fun a0 a1 k => LeO.refl _
end Go.Proofs.YtceflmoiiiclcaaDoor.PX
