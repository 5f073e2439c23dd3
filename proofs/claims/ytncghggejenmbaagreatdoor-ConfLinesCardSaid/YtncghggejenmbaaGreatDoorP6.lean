/- Plain: what a text makes of a configuration. -/
import Derived.Test.YtncghggejenmbaaGreatDoorP5
import Derived.Test.YtncghggejenmbaaGreatDoorB6
import Derived.Test.YtncghggejenmbaaGreatDoorF8
namespace Go.Proofs.YtncghggejenmbaaGreatDoor
open Go.RowKit Go.Proofs Go.Lib
set_option linter.unusedSimpArgs false
set_option linter.unusedVariables false
def zeroC : CF := ⟨0, 0, 0, 0, 0, 0, 0, 0, 0, 0, 0, 0, 0, 0, 0, 0, 0, 0, 0, 0, 0, 0, 0, 0, 0, 0, 0, 0, 0, 0, 0, 0, 0, 0, 0, 0, 0, 0⟩
def CF.fin (c : CF) : CF := { c with own := c.ii, msk := mask c.ib }
structure PR where
  c : CF
  n : Nat
  e : Int
noncomputable def parseEnd (k : Nat) (c : CF) (t : List UInt8) : PR :=
  if t = [] then (if confB c.fin = true then ⟨c.fin, 0, 0⟩ else ⟨zeroC, 0, 11⟩) else ⟨zeroC, k + 1, 10⟩
noncomputable def parseFrom : List (ByteArray × List Fld) → Nat → CF → List UInt8 → PR
  | [], k, c, t => parseEnd k c t
  | r :: R, k, c, t =>
    if (Lib.cut t [10]).2.2 = true then
      match rowOf r c (Lib.cut t [10]).1 with
      | some c' => parseFrom R (k + 1) c' (Lib.cut t [10]).2.1
      | none => ⟨zeroC, k + 1, 10⟩
    else ⟨zeroC, k + 1, 10⟩
noncomputable def parseOf (t : List UInt8) : PR := parseFrom rowSpecs 0 zeroC t
theorem cut_len (t : List UInt8) : (Lib.cut t [10]).1.length ≤ t.length ∧ (Lib.cut t [10]).2.1.length ≤ t.length := by
  unfold Lib.cut
  split
  · simp
    omega
  · simp
end Go.Proofs.YtncghggejenmbaaGreatDoor
