/- The layer ops: Fixed, matches, Code. -/
import Derived.Test.YtmnbalbiehlkpaaGreatDoorJForm
import Derived.Laws.StructEq
import Derived.BigQuiet
set_option linter.unusedVariables false
set_option linter.unusedSimpArgs false
namespace Go.Proofs.YtmnbalbiehlkpaaGreatDoor
open Go.RowKit

/-- What the rows of the table keep. -/
structure OpRow.Ok (r : OpRow) : Prop where
 form : -1 ≤ r.form ∧ r.form ≤ 11
 code : 0 ≤ r.code ∧ r.code ≤ 220
 src : 0 ≤ r.src ∧ r.src ≤ 1
 off : 0 ≤ r.off ∧ r.off ≤ 32
 imm : 0 ≤ r.imm ∧ r.imm ≤ 64
end Go.Proofs.YtmnbalbiehlkpaaGreatDoor

set_option linter.unusedVariables false
set_option linter.unusedSimpArgs false
namespace Go.Proofs.YtmnbalbiehlkpaaGreatDoor
open Go.RowKit

end Go.Proofs.YtmnbalbiehlkpaaGreatDoor


set_option linter.unusedVariables false
set_option linter.unusedSimpArgs false
namespace Go.Proofs.YtmnbalbiehlkpaaGreatDoor
open Go.RowKit

end Go.Proofs.YtmnbalbiehlkpaaGreatDoor


set_option linter.unusedVariables false
set_option linter.unusedSimpArgs false
namespace Go.Proofs.YtmnbalbiehlkpaaGreatDoor
open Go.RowKit

theorem range_first {α : Type} (f : Nat → Option α) : ∀ (n k : Nat) (r : α), k < n → (∀ j, j < k → f j = none) → f k = some r → (List.range n).findSome? f = some r := by
 intro n k r hk hn hr
 have e : List.range n = List.range k ++ (k :: (List.range n).drop (k + 1)) := by
  apply List.ext_getElem?
  intro i
  by_cases h1 : i < k
  ·rw [List.getElem?_append_left (by simpa using h1)]
   simp [List.getElem?_range, h1, Nat.lt_trans h1 hk]
  ·rw [List.getElem?_append_right (by simpa using h1)]
   rcases Nat.eq_or_lt_of_le (Nat.not_lt.1 h1) with h2 | h2
   ·subst h2; simp [List.getElem?_range, hk]
   ·obtain ⟨m, rfl⟩ := Nat.exists_eq_add_of_lt h2
    simp only [List.length_range]
    rw [show k + m + 1 - k = m + 1 by omega, List.getElem?_cons_succ, List.getElem?_drop]
    congr 1
    omega
 rw [e, List.findSome?_append]
 have h0 : (List.range k).findSome? f = none := by
  rw [List.findSome?_eq_none_iff]
  intro x hx
  exact hn x (by simpa using hx)
 rw [h0, List.findSome?_cons, hr]
 rfl
end Go.Proofs.YtmnbalbiehlkpaaGreatDoor
