/- The layer ops, the reference: Right, Form; and the functions of insn that ask the form alone. -/
import Derived.Test.YtmnbalbiehlkpaaGreatDoorJOpsB
set_option linter.unusedVariables false
set_option linter.unusedSimpArgs false
namespace Go.Proofs.YtmnbalbiehlkpaaGreatDoor
open Go.RowKit

def refF (n : Int) : Int := if n < 0 ∨ 85 < n then -1 else if n ≤ 27 then 0 else if n ≤ 29 ∨ (35 ≤ n ∧ n ≤ 43) then 1 else if n ≤ 34 then 2 else if n = 44 then 3 else if n ≤ 66 then 4 else if n ≤ 68 then n - 62 else if n ≤ 75 then 7 else if n ≤ 79 then 8 else if n ≤ 83 then 9 else n - 74
set_option maxRecDepth 100000 in
theorem formN_eq (n : Int) : formN n = refF n := by
 by_cases h : 0 ≤ n ∧ n < 86
 ·obtain ⟨k, rfl⟩ := Int.eq_ofNat_of_zero_le h.1
  have : ∀ k : Fin 86, formN (k.val : Nat) = refF (k.val : Nat) := by decide +kernel
  exact this ⟨k, by omega⟩
 ·have h1 : formN n = -1 := by unfold formN rowOf; rw [if_neg h]; rfl
  rw [h1]; unfold refF; rw [if_pos (by omega)]
theorem refF_bd (n : Int) : -1 ≤ refF n ∧ refF n ≤ 11 := by
 unfold refF
 repeat' split
 all_goals omega
def right (n : Int) : Bool := decide (0 ≤ n ∧ n ≤ 85)
theorem right_any (n : Int) (w : World) (hn : I64 n) : Calls Tryz.prog 66 #[.int .i64 n] w fun e w' => e = .returned (.bool (right n)) ∧ w' = w := by
 by_cases h0 : 0 ≤ n
 ·have d0 : decide (n ≥ 0) = true := decide_eq_true h0
  by_cases h1 : n ≤ 85
  ·have d1 : decide (n ≤ 85) = true := decide_eq_true h1
   have hr : right n = true := decide_eq_true ⟨h0, h1⟩
   rw [hr]
   go_enter Tryz.func66, Tryz.ntmps66
   go_wp2
   go_ret
   exact ⟨rfl, rfl⟩
  ·have d1 : decide (n ≤ 85) = false := decide_eq_false h1
   have hr : right n = false := decide_eq_false (by omega)
   rw [hr]
   go_enter Tryz.func66, Tryz.ntmps66
   go_wp2
   go_ret
   exact ⟨rfl, rfl⟩
 ·have d0 : decide (n ≥ 0) = false := decide_eq_false h0
  have hr : right n = false := decide_eq_false (by omega)
  rw [hr]
  go_enter Tryz.func66, Tryz.ntmps66
  go_wp2
  go_ret
  exact ⟨rfl, rfl⟩
set_option maxRecDepth 40000 in
set_option maxHeartbeats 4000000 in
theorem refForm_any (n : Int) (w : World) (hn : I64 n) : Calls Tryz.prog 33 #[.int .i64 n] w fun e w' => e = .returned (.int .i64 (refF n)) ∧ w' = w := by
 by_cases hi : 0 ≤ n ∧ n ≤ 85
 case neg =>
  have hR : right n = false := decide_eq_false hi
  have hr : refF n = -1 := by unfold refF; rw [if_pos (by omega)]
  rw [hr]
  go_enter Tryz.func33, Tryz.ntmps33
  go_wp2_with (go_at_call 66; refine (right_any n _ hn).mono ?_; rintro e w1 ⟨rfl, rfl⟩; rw [hR])
  go_ret
  exact ⟨rfl, rfl⟩
 have hR : right n = true := decide_eq_true hi
 have hc : (0 ≤ n ∧ n ≤ 27) ∨ (28 ≤ n ∧ n ≤ 29) ∨ (35 ≤ n ∧ n ≤ 43) ∨ (30 ≤ n ∧ n ≤ 34) ∨ (44 ≤ n ∧ n ≤ 44) ∨ (45 ≤ n ∧ n ≤ 66) ∨ (67 ≤ n ∧ n ≤ 68) ∨ (69 ≤ n ∧ n ≤ 75) ∨ (76 ≤ n ∧ n ≤ 79) ∨ (80 ≤ n ∧ n ≤ 83) ∨ (84 ≤ n ∧ n ≤ 85) := by omega
 rcases hc with hc | hc | hc | hc | hc | hc | hc | hc | hc | hc | hc
 ·have hr : refF n = 0 := by
   unfold refF
   repeat' split
   all_goals omega
  have g0 : decide (n ≥ 0) = true := decide_eq_true (by omega)
  have g1 : decide (n ≤ 85) = true := decide_eq_true (by omega)
  have l27 : decide (n ≤ 27) = true := decide_eq_true (by omega)
  have l29 : decide (n ≤ 29) = true := decide_eq_true (by omega)
  have l43 : decide (n ≤ 43) = true := decide_eq_true (by omega)
  have l34 : decide (n ≤ 34) = true := decide_eq_true (by omega)
  have l66 : decide (n ≤ 66) = true := decide_eq_true (by omega)
  have l68 : decide (n ≤ 68) = true := decide_eq_true (by omega)
  have l75 : decide (n ≤ 75) = true := decide_eq_true (by omega)
  have l79 : decide (n ≤ 79) = true := decide_eq_true (by omega)
  have l83 : decide (n ≤ 83) = true := decide_eq_true (by omega)
  have g35 : decide (n ≥ 35) = false := decide_eq_false (by omega)
  have e44 : (n == 44) = false := beq_eq_false_iff_ne.2 (by omega)
  rw [hr]
  clear hr
  go_enter Tryz.func33, Tryz.ntmps33
  go_wp2_with (go_at_call 66; refine (right_any n _ hn).mono ?_; rintro e w1 ⟨rfl, rfl⟩; rw [hR])
  go_ret
  exact ⟨rfl, rfl⟩
 ·have hr : refF n = 1 := by
   unfold refF
   repeat' split
   all_goals omega
  have g0 : decide (n ≥ 0) = true := decide_eq_true (by omega)
  have g1 : decide (n ≤ 85) = true := decide_eq_true (by omega)
  have l27 : decide (n ≤ 27) = false := decide_eq_false (by omega)
  have l29 : decide (n ≤ 29) = true := decide_eq_true (by omega)
  have l43 : decide (n ≤ 43) = true := decide_eq_true (by omega)
  have l34 : decide (n ≤ 34) = true := decide_eq_true (by omega)
  have l66 : decide (n ≤ 66) = true := decide_eq_true (by omega)
  have l68 : decide (n ≤ 68) = true := decide_eq_true (by omega)
  have l75 : decide (n ≤ 75) = true := decide_eq_true (by omega)
  have l79 : decide (n ≤ 79) = true := decide_eq_true (by omega)
  have l83 : decide (n ≤ 83) = true := decide_eq_true (by omega)
  have g35 : decide (n ≥ 35) = false := decide_eq_false (by omega)
  have e44 : (n == 44) = false := beq_eq_false_iff_ne.2 (by omega)
  rw [hr]
  clear hr
  go_enter Tryz.func33, Tryz.ntmps33
  go_wp2_with (go_at_call 66; refine (right_any n _ hn).mono ?_; rintro e w1 ⟨rfl, rfl⟩; rw [hR])
  go_ret
  exact ⟨rfl, rfl⟩
 ·have hr : refF n = 1 := by
   unfold refF
   repeat' split
   all_goals omega
  have g0 : decide (n ≥ 0) = true := decide_eq_true (by omega)
  have g1 : decide (n ≤ 85) = true := decide_eq_true (by omega)
  have l27 : decide (n ≤ 27) = false := decide_eq_false (by omega)
  have l29 : decide (n ≤ 29) = false := decide_eq_false (by omega)
  have l43 : decide (n ≤ 43) = true := decide_eq_true (by omega)
  have l34 : decide (n ≤ 34) = false := decide_eq_false (by omega)
  have l66 : decide (n ≤ 66) = true := decide_eq_true (by omega)
  have l68 : decide (n ≤ 68) = true := decide_eq_true (by omega)
  have l75 : decide (n ≤ 75) = true := decide_eq_true (by omega)
  have l79 : decide (n ≤ 79) = true := decide_eq_true (by omega)
  have l83 : decide (n ≤ 83) = true := decide_eq_true (by omega)
  have g35 : decide (n ≥ 35) = true := decide_eq_true (by omega)
  have e44 : (n == 44) = false := beq_eq_false_iff_ne.2 (by omega)
  rw [hr]
  clear hr
  go_enter Tryz.func33, Tryz.ntmps33
  go_wp2_with (go_at_call 66; refine (right_any n _ hn).mono ?_; rintro e w1 ⟨rfl, rfl⟩; rw [hR])
  go_ret
  exact ⟨rfl, rfl⟩
 ·have hr : refF n = 2 := by
   unfold refF
   repeat' split
   all_goals omega
  have g0 : decide (n ≥ 0) = true := decide_eq_true (by omega)
  have g1 : decide (n ≤ 85) = true := decide_eq_true (by omega)
  have l27 : decide (n ≤ 27) = false := decide_eq_false (by omega)
  have l29 : decide (n ≤ 29) = false := decide_eq_false (by omega)
  have l43 : decide (n ≤ 43) = true := decide_eq_true (by omega)
  have l34 : decide (n ≤ 34) = true := decide_eq_true (by omega)
  have l66 : decide (n ≤ 66) = true := decide_eq_true (by omega)
  have l68 : decide (n ≤ 68) = true := decide_eq_true (by omega)
  have l75 : decide (n ≤ 75) = true := decide_eq_true (by omega)
  have l79 : decide (n ≤ 79) = true := decide_eq_true (by omega)
  have l83 : decide (n ≤ 83) = true := decide_eq_true (by omega)
  have g35 : decide (n ≥ 35) = false := decide_eq_false (by omega)
  have e44 : (n == 44) = false := beq_eq_false_iff_ne.2 (by omega)
  rw [hr]
  clear hr
  go_enter Tryz.func33, Tryz.ntmps33
  go_wp2_with (go_at_call 66; refine (right_any n _ hn).mono ?_; rintro e w1 ⟨rfl, rfl⟩; rw [hR])
  go_ret
  exact ⟨rfl, rfl⟩
 ·have hr : refF n = 3 := by
   unfold refF
   repeat' split
   all_goals omega
  have g0 : decide (n ≥ 0) = true := decide_eq_true (by omega)
  have g1 : decide (n ≤ 85) = true := decide_eq_true (by omega)
  have l27 : decide (n ≤ 27) = false := decide_eq_false (by omega)
  have l29 : decide (n ≤ 29) = false := decide_eq_false (by omega)
  have l43 : decide (n ≤ 43) = false := decide_eq_false (by omega)
  have l34 : decide (n ≤ 34) = false := decide_eq_false (by omega)
  have l66 : decide (n ≤ 66) = true := decide_eq_true (by omega)
  have l68 : decide (n ≤ 68) = true := decide_eq_true (by omega)
  have l75 : decide (n ≤ 75) = true := decide_eq_true (by omega)
  have l79 : decide (n ≤ 79) = true := decide_eq_true (by omega)
  have l83 : decide (n ≤ 83) = true := decide_eq_true (by omega)
  have g35 : decide (n ≥ 35) = true := decide_eq_true (by omega)
  have e44 : (n == 44) = true := beq_iff_eq.2 (by omega)
  rw [hr]
  clear hr
  go_enter Tryz.func33, Tryz.ntmps33
  go_wp2_with (go_at_call 66; refine (right_any n _ hn).mono ?_; rintro e w1 ⟨rfl, rfl⟩; rw [hR])
  go_ret
  exact ⟨rfl, rfl⟩
 ·have hr : refF n = 4 := by
   unfold refF
   repeat' split
   all_goals omega
  have g0 : decide (n ≥ 0) = true := decide_eq_true (by omega)
  have g1 : decide (n ≤ 85) = true := decide_eq_true (by omega)
  have l27 : decide (n ≤ 27) = false := decide_eq_false (by omega)
  have l29 : decide (n ≤ 29) = false := decide_eq_false (by omega)
  have l43 : decide (n ≤ 43) = false := decide_eq_false (by omega)
  have l34 : decide (n ≤ 34) = false := decide_eq_false (by omega)
  have l66 : decide (n ≤ 66) = true := decide_eq_true (by omega)
  have l68 : decide (n ≤ 68) = true := decide_eq_true (by omega)
  have l75 : decide (n ≤ 75) = true := decide_eq_true (by omega)
  have l79 : decide (n ≤ 79) = true := decide_eq_true (by omega)
  have l83 : decide (n ≤ 83) = true := decide_eq_true (by omega)
  have g35 : decide (n ≥ 35) = true := decide_eq_true (by omega)
  have e44 : (n == 44) = false := beq_eq_false_iff_ne.2 (by omega)
  rw [hr]
  clear hr
  go_enter Tryz.func33, Tryz.ntmps33
  go_wp2_with (go_at_call 66; refine (right_any n _ hn).mono ?_; rintro e w1 ⟨rfl, rfl⟩; rw [hR])
  go_ret
  exact ⟨rfl, rfl⟩
 ·have hr : refF n = n - 62 := by
   unfold refF
   repeat' split
   all_goals omega
  have g0 : decide (n ≥ 0) = true := decide_eq_true (by omega)
  have g1 : decide (n ≤ 85) = true := decide_eq_true (by omega)
  have l27 : decide (n ≤ 27) = false := decide_eq_false (by omega)
  have l29 : decide (n ≤ 29) = false := decide_eq_false (by omega)
  have l43 : decide (n ≤ 43) = false := decide_eq_false (by omega)
  have l34 : decide (n ≤ 34) = false := decide_eq_false (by omega)
  have l66 : decide (n ≤ 66) = false := decide_eq_false (by omega)
  have l68 : decide (n ≤ 68) = true := decide_eq_true (by omega)
  have l75 : decide (n ≤ 75) = true := decide_eq_true (by omega)
  have l79 : decide (n ≤ 79) = true := decide_eq_true (by omega)
  have l83 : decide (n ≤ 83) = true := decide_eq_true (by omega)
  have g35 : decide (n ≥ 35) = true := decide_eq_true (by omega)
  have e44 : (n == 44) = false := beq_eq_false_iff_ne.2 (by omega)
  rw [hr]
  clear hr
  go_enter Tryz.func33, Tryz.ntmps33
  go_wp2_with (go_at_call 66; refine (right_any n _ hn).mono ?_; rintro e w1 ⟨rfl, rfl⟩; rw [hR])
  go_ret
  exact ⟨rfl, rfl⟩
 ·have hr : refF n = 7 := by
   unfold refF
   repeat' split
   all_goals omega
  have g0 : decide (n ≥ 0) = true := decide_eq_true (by omega)
  have g1 : decide (n ≤ 85) = true := decide_eq_true (by omega)
  have l27 : decide (n ≤ 27) = false := decide_eq_false (by omega)
  have l29 : decide (n ≤ 29) = false := decide_eq_false (by omega)
  have l43 : decide (n ≤ 43) = false := decide_eq_false (by omega)
  have l34 : decide (n ≤ 34) = false := decide_eq_false (by omega)
  have l66 : decide (n ≤ 66) = false := decide_eq_false (by omega)
  have l68 : decide (n ≤ 68) = false := decide_eq_false (by omega)
  have l75 : decide (n ≤ 75) = true := decide_eq_true (by omega)
  have l79 : decide (n ≤ 79) = true := decide_eq_true (by omega)
  have l83 : decide (n ≤ 83) = true := decide_eq_true (by omega)
  have g35 : decide (n ≥ 35) = true := decide_eq_true (by omega)
  have e44 : (n == 44) = false := beq_eq_false_iff_ne.2 (by omega)
  rw [hr]
  clear hr
  go_enter Tryz.func33, Tryz.ntmps33
  go_wp2_with (go_at_call 66; refine (right_any n _ hn).mono ?_; rintro e w1 ⟨rfl, rfl⟩; rw [hR])
  go_ret
  exact ⟨rfl, rfl⟩
 ·have hr : refF n = 8 := by
   unfold refF
   repeat' split
   all_goals omega
  have g0 : decide (n ≥ 0) = true := decide_eq_true (by omega)
  have g1 : decide (n ≤ 85) = true := decide_eq_true (by omega)
  have l27 : decide (n ≤ 27) = false := decide_eq_false (by omega)
  have l29 : decide (n ≤ 29) = false := decide_eq_false (by omega)
  have l43 : decide (n ≤ 43) = false := decide_eq_false (by omega)
  have l34 : decide (n ≤ 34) = false := decide_eq_false (by omega)
  have l66 : decide (n ≤ 66) = false := decide_eq_false (by omega)
  have l68 : decide (n ≤ 68) = false := decide_eq_false (by omega)
  have l75 : decide (n ≤ 75) = false := decide_eq_false (by omega)
  have l79 : decide (n ≤ 79) = true := decide_eq_true (by omega)
  have l83 : decide (n ≤ 83) = true := decide_eq_true (by omega)
  have g35 : decide (n ≥ 35) = true := decide_eq_true (by omega)
  have e44 : (n == 44) = false := beq_eq_false_iff_ne.2 (by omega)
  rw [hr]
  clear hr
  go_enter Tryz.func33, Tryz.ntmps33
  go_wp2_with (go_at_call 66; refine (right_any n _ hn).mono ?_; rintro e w1 ⟨rfl, rfl⟩; rw [hR])
  go_ret
  exact ⟨rfl, rfl⟩
 ·have hr : refF n = 9 := by
   unfold refF
   repeat' split
   all_goals omega
  have g0 : decide (n ≥ 0) = true := decide_eq_true (by omega)
  have g1 : decide (n ≤ 85) = true := decide_eq_true (by omega)
  have l27 : decide (n ≤ 27) = false := decide_eq_false (by omega)
  have l29 : decide (n ≤ 29) = false := decide_eq_false (by omega)
  have l43 : decide (n ≤ 43) = false := decide_eq_false (by omega)
  have l34 : decide (n ≤ 34) = false := decide_eq_false (by omega)
  have l66 : decide (n ≤ 66) = false := decide_eq_false (by omega)
  have l68 : decide (n ≤ 68) = false := decide_eq_false (by omega)
  have l75 : decide (n ≤ 75) = false := decide_eq_false (by omega)
  have l79 : decide (n ≤ 79) = false := decide_eq_false (by omega)
  have l83 : decide (n ≤ 83) = true := decide_eq_true (by omega)
  have g35 : decide (n ≥ 35) = true := decide_eq_true (by omega)
  have e44 : (n == 44) = false := beq_eq_false_iff_ne.2 (by omega)
  rw [hr]
  clear hr
  go_enter Tryz.func33, Tryz.ntmps33
  go_wp2_with (go_at_call 66; refine (right_any n _ hn).mono ?_; rintro e w1 ⟨rfl, rfl⟩; rw [hR])
  go_ret
  exact ⟨rfl, rfl⟩
 ·have hr : refF n = n - 74 := by
   unfold refF
   repeat' split
   all_goals omega
  have g0 : decide (n ≥ 0) = true := decide_eq_true (by omega)
  have g1 : decide (n ≤ 85) = true := decide_eq_true (by omega)
  have l27 : decide (n ≤ 27) = false := decide_eq_false (by omega)
  have l29 : decide (n ≤ 29) = false := decide_eq_false (by omega)
  have l43 : decide (n ≤ 43) = false := decide_eq_false (by omega)
  have l34 : decide (n ≤ 34) = false := decide_eq_false (by omega)
  have l66 : decide (n ≤ 66) = false := decide_eq_false (by omega)
  have l68 : decide (n ≤ 68) = false := decide_eq_false (by omega)
  have l75 : decide (n ≤ 75) = false := decide_eq_false (by omega)
  have l79 : decide (n ≤ 79) = false := decide_eq_false (by omega)
  have l83 : decide (n ≤ 83) = false := decide_eq_false (by omega)
  have g35 : decide (n ≥ 35) = true := decide_eq_true (by omega)
  have e44 : (n == 44) = false := beq_eq_false_iff_ne.2 (by omega)
  rw [hr]
  clear hr
  go_enter Tryz.func33, Tryz.ntmps33
  go_wp2_with (go_at_call 66; refine (right_any n _ hn).mono ?_; rintro e w1 ⟨rfl, rfl⟩; rw [hR])
  go_ret
  exact ⟨rfl, rfl⟩
end Go.Proofs.YtmnbalbiehlkpaaGreatDoor
