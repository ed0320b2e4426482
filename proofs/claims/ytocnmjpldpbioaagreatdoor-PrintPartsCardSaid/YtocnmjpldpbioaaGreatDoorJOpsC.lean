/- The layer ops: Fixed, matches, Code. -/
import Derived.Test.YtocnmjpldpbioaaGreatDoorJForm
import Derived.Laws.StructEq
import Derived.BigQuiet
set_option linter.unusedVariables false
set_option linter.unusedSimpArgs false
namespace Go.Proofs.YtocnmjpldpbioaaGreatDoor
open Go.RowKit

/-- What the rows of the table keep. -/
structure OpRow.Ok (r : OpRow) : Prop where
 form : -1 ≤ r.form ∧ r.form ≤ 11
 code : 0 ≤ r.code ∧ r.code ≤ 220
 src : 0 ≤ r.src ∧ r.src ≤ 1
 off : 0 ≤ r.off ∧ r.off ≤ 32
 imm : 0 ≤ r.imm ∧ r.imm ≤ 64
set_option maxRecDepth 100000 in
theorem rowOf_ok (n : Int) : (rowOf n).Ok := by
 by_cases h : 0 ≤ n ∧ n < 86
 ·obtain ⟨k, rfl⟩ := Int.eq_ofNat_of_zero_le h.1
  have h1 : ∀ k : Fin 86, (-1 ≤ (rowOf (k.val : Nat)).form ∧ (rowOf (k.val : Nat)).form ≤ 11) ∧ (0 ≤ (rowOf (k.val : Nat)).code ∧ (rowOf (k.val : Nat)).code ≤ 220) ∧ (0 ≤ (rowOf (k.val : Nat)).src ∧ (rowOf (k.val : Nat)).src ≤ 1) ∧ (0 ≤ (rowOf (k.val : Nat)).off ∧ (rowOf (k.val : Nat)).off ≤ 32) ∧ (0 ≤ (rowOf (k.val : Nat)).imm ∧ (rowOf (k.val : Nat)).imm ≤ 64) := by decide +kernel
  have := h1 ⟨k, by omega⟩
  exact ⟨this.1, this.2.1, this.2.2.1, this.2.2.2.1, this.2.2.2.2⟩
 ·have hr : rowOf n = noneRow := if_neg h
  rw [hr]
  exact ⟨by decide, by decide, by decide, by decide, by decide⟩
end Go.Proofs.YtocnmjpldpbioaaGreatDoor

set_option linter.unusedVariables false
set_option linter.unusedSimpArgs false
namespace Go.Proofs.YtocnmjpldpbioaaGreatDoor
open Go.RowKit

end Go.Proofs.YtocnmjpldpbioaaGreatDoor


set_option linter.unusedVariables false
set_option linter.unusedSimpArgs false
namespace Go.Proofs.YtocnmjpldpbioaaGreatDoor
open Go.RowKit

end Go.Proofs.YtocnmjpldpbioaaGreatDoor


set_option linter.unusedVariables false
set_option linter.unusedSimpArgs false
namespace Go.Proofs.YtocnmjpldpbioaaGreatDoor
open Go.RowKit

theorem range_first {α : Type} (f : Nat → Option α) : ∀ (n k : Nat) (r : α), k < n → (∀ j, j < k → f j = none) → f k = some r → (List.range n).findSome? f = some r := by
 intro n k r hk hn hr
 have e : List.range n = List.range k ++ (k :: (List.range n).drop (k + 1)) := by
  apply List.ext_getElem?
  intro i
  by_cases h1 : i < k
  ·rw [List.getElem?_append_left (by simpa using h1)]
   simp [List.getElem?_range, h1, Nat.lt_trans h1 hk]
  ·rw [List.getElem?_append_right (by simpa using h1)]
   rcases Nat.eq_or_lt_of_le (Nat.not_lt.1 h1) with h2 | h2
   ·subst h2; simp [List.getElem?_range, hk]
   ·obtain ⟨m, rfl⟩ := Nat.exists_eq_add_of_lt h2
    simp only [List.length_range]
    rw [show k + m + 1 - k = m + 1 by omega, List.getElem?_cons_succ, List.getElem?_drop]
    congr 1
    omega
 rw [e, List.findSome?_append]
 have h0 : (List.range k).findSome? f = none := by
  rw [List.findSome?_eq_none_iff]
  intro x hx
  exact hn x (by simpa using hx)
 rw [h0, List.findSome?_cons, hr]
 rfl
end Go.Proofs.YtocnmjpldpbioaaGreatDoor
