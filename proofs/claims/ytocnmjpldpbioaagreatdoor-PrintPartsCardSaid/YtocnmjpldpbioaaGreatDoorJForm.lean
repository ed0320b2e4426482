/- The layer ops, the reference: Right, Form; and the functions of insn that ask the form alone. -/
import Derived.Test.YtocnmjpldpbioaaGreatDoorJOpsB
set_option linter.unusedVariables false
set_option linter.unusedSimpArgs false
namespace Go.Proofs.YtocnmjpldpbioaaGreatDoor
open Go.RowKit

def refF (n : Int) : Int := if n < 0 ∨ 85 < n then -1 else if n ≤ 27 then 0 else if n ≤ 29 ∨ (35 ≤ n ∧ n ≤ 43) then 1 else if n ≤ 34 then 2 else if n = 44 then 3 else if n ≤ 66 then 4 else if n ≤ 68 then n - 62 else if n ≤ 75 then 7 else if n ≤ 79 then 8 else if n ≤ 83 then 9 else n - 74
set_option maxRecDepth 100000 in
theorem formN_eq (n : Int) : formN n = refF n := by
 by_cases h : 0 ≤ n ∧ n < 86
 ·obtain ⟨k, rfl⟩ := Int.eq_ofNat_of_zero_le h.1
  have : ∀ k : Fin 86, formN (k.val : Nat) = refF (k.val : Nat) := by decide +kernel
  exact this ⟨k, by omega⟩
 ·have h1 : formN n = -1 := by unfold formN rowOf; rw [if_neg h]; rfl
  rw [h1]; unfold refF; rw [if_pos (by omega)]
theorem refF_bd (n : Int) : -1 ≤ refF n ∧ refF n ≤ 11 := by
 unfold refF
 repeat' split
 all_goals omega
end Go.Proofs.YtocnmjpldpbioaaGreatDoor
