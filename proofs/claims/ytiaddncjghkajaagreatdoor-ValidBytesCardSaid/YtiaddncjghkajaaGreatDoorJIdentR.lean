/- The layer ops, the reference: Identify. -/
import Derived.Test.YtiaddncjghkajaaGreatDoorJOpsC
set_option linter.unusedVariables false
set_option linter.unusedSimpArgs false
namespace Go.Proofs.YtiaddncjghkajaaGreatDoor
open Go.RowKit

set_option maxRecDepth 100000 in
theorem fix_imm (k : Nat) (h : k < 86) : ((35 ≤ k ∧ k ≤ 43) → (rowOf (k : Nat)).imm ≠ 0) ∧ (¬ (35 ≤ k ∧ k ≤ 43) → (rowOf (k : Nat)).imm = 0) := by
 have : ∀ k : Fin 86, ((35 ≤ k.val ∧ k.val ≤ 43) → (rowOf (k.val : Nat)).imm ≠ 0) ∧ (¬ (35 ≤ k.val ∧ k.val ≤ 43) → (rowOf (k.val : Nat)).imm = 0) := by decide +kernel
 exact this ⟨k, h⟩
set_option maxRecDepth 100000 in
theorem form_at (k : Nat) (h : k < 86) : (k ≤ 27 → formN (k : Nat) = 0) ∧ ((30 ≤ k ∧ k ≤ 34) → formN (k : Nat) = 2) ∧ ((28 ≤ k ∧ k ≤ 29 ∨ 35 ≤ k ∧ k ≤ 43) → formN (k : Nat) = 1) ∧ ((44 ≤ k ∧ k ≤ 83) → formN (k : Nat) ≠ 0 ∧ formN (k : Nat) ≠ 2 ∧ formN (k : Nat) ≠ 10 ∧ formN (k : Nat) ≠ 11) ∧ (84 ≤ k → formN (k : Nat) = 10 ∨ formN (k : Nat) = 11) := by
 have : ∀ k : Fin 86, (k.val ≤ 27 → formN (k.val : Nat) = 0) ∧ ((30 ≤ k.val ∧ k.val ≤ 34) → formN (k.val : Nat) = 2) ∧ ((28 ≤ k.val ∧ k.val ≤ 29 ∨ 35 ≤ k.val ∧ k.val ≤ 43) → formN (k.val : Nat) = 1) ∧ ((44 ≤ k.val ∧ k.val ≤ 83) → formN (k.val : Nat) ≠ 0 ∧ formN (k.val : Nat) ≠ 2 ∧ formN (k.val : Nat) ≠ 10 ∧ formN (k.val : Nat) ≠ 11) ∧ (84 ≤ k.val → formN (k.val : Nat) = 10 ∨ formN (k.val : Nat) = 11) := by decide +kernel
 exact this ⟨k, h⟩
set_option maxRecDepth 40000 in
set_option maxHeartbeats 8000000 in
theorem refIdent_any (code src off imm : Int) (w : World) :
  Calls Tryz.prog 124 #[.int .u8 code, .int .i64 src, .int .i64 off, .int .i64 imm] w fun e w' => e = .returned (.tuple #[.int .i64 (idR code src off imm).1, .bool (idR code src off imm).2.1, .bool (idR code src off imm).2.2]) ∧ Ext w w' := by
 go_enter Tryz.func124, Tryz.ntmps124
 go_wp2
 go_loopw [11] (fun i wr => ∃ k : Nat, k ≤ 86 ∧ i = .int .i64 (k : Nat) ∧ (∀ j, j < k → idAt code src off imm j = none) ∧ Ext w wr) (fun i _ => 86 - (RowKit.intOf i).toNat)
 case atStart => exact ⟨0, by omega, rfl, by intro j hj; omega, Ext.refl _⟩
 case round =>
  obtain ⟨k, hk, rfl, hno, er⟩ := hrel
  have HN := hx hno
  clear hno
  by_cases hlt : k < 86
  case neg =>
   obtain rfl : k = 86 := by omega
   have hR := hx (idR_none HN.out)
   go_wp2
   refine bodyPost_ret (results_tmp3 rfl _ _ _) rfl ?_
   exact ⟨by rw [hR.out]; rfl, er⟩
  have dk : decide ((k : Int) ≤ 85) = true := decide_eq_true (by omega)
  have hk0 : (0 : Int) ≤ (k : Int) := by omega
  have hk86 : (k : Int) < 86 := by omega
  have HX := hx (fun W => refFixed_any (k : Nat) W ⟨by omega, by omega⟩)
  have hF := fun W => refForm_any (k : Nat) W ⟨by omega, by omega⟩
  rw [← formN_eq] at hF
  have HF := hx hF
  have CO := hx (fun (W : World) (reg : Bool) => refCode_any (k : Nat) reg W ⟨by omega, by omega⟩)
  have hcf := codeN_false hlt
  have fa := form_at k hlt
  have fi := fix_imm k hlt
  have hid : idAt code src off imm k = if matchesN (rowOf (k : Nat)) src off imm then (if (codeN k false).1 = code then some (↑k, false) else if (codeN k true).2 = true ∧ (codeN k true).1 = code then some (↑k, true) else none) else none := rfl
  have hmm : matchesN (rowOf (k : Nat)) src off imm = if formN (k : Nat) = 0 ∨ formN (k : Nat) = 2 then (fixN k).2.1 == off else if (fixN k).2.2 ≠ 0 then (fixN k).2.2 == imm else if formN (k : Nat) = 10 ∨ formN (k : Nat) = 11 then (fixN k).1 == src else true := rfl
  have fi2 : ((35 ≤ k ∧ k ≤ 43) → (fixN k).2.2 ≠ 0) ∧ (¬ (35 ≤ k ∧ k ≤ 43) → (fixN k).2.2 = 0) := fi
  obtain ⟨⟨s, o, i⟩, hP⟩ : ∃ p, p = fixN k := ⟨_, rfl⟩
  obtain ⟨⟨c0, o0⟩, hC0⟩ : ∃ p, p = codeN k false := ⟨_, rfl⟩
  obtain ⟨⟨c1, o1⟩, hC1⟩ : ∃ p, p = codeN k true := ⟨_, rfl⟩
  have CF := hx (fun W => CO.out W false)
  have CT := hx (fun W => CO.out W true)
  rw [← hC0] at hcf hid CF
  rw [← hC1] at hid CT
  have hX := HX.out
  rw [← hP] at hX hmm fi2
  dsimp only at hcf hid CF CT hX hmm fi2
  subst hcf
  have HX2 := hx hX
  generalize formN (k : Nat) = F at *
  generalize matchesN (rowOf (k : Nat)) src off imm = M at *
  have HID := hx hid
  clear hid hF hX HX CO fi hC0 hC1 hP
  by_cases hi27 : k ≤ 27
  ·obtain rfl : F = 0 := fa.1 (by omega)
   have g35 : decide ((k : Int) ≥ 35) = false := decide_eq_false (by omega)
   have l43 : decide ((k : Int) ≤ 43) = true := decide_eq_true (by omega)
   have g84 : decide ((k : Int) ≥ 84) = false := decide_eq_false (by omega)
   rw [if_pos (by omega)] at hmm
   by_cases hv : o = off
   case neg =>
    have nv : (o != off) = true := by simpa using hv
    have hm : M = false := by rw [hmm]; exact beq_eq_false_iff_ne.2 hv
    clear hv
    have hno := hx (show idAt code src off imm k = none by rw [HID.out]; simp [hm])
    clear hm hmm fa fi2
    go_wp2_with (first | (go_at_call 125; refine (HX2.out _).mono ?_; rintro e w2 ⟨rfl, e2⟩; replace e2 := er.trans e2) | (go_at_call 73; refine (HF.out _).mono ?_; rintro e w3 ⟨rfl, rfl⟩) | (go_at_call 137; refine (CF.out _).mono ?_; rintro e w4 ⟨rfl, e4⟩; replace e4 := e2.trans e4; clear CF) | (go_at_call 137; refine (CT.out _).mono ?_; rintro e w5 ⟨rfl, e5⟩; replace e5 := e4.trans e5))
    go_roundw
    case rel => exact ⟨k + 1, by omega, by simp, fun j hj => by
     rcases Nat.lt_succ_iff_lt_or_eq.1 hj with h | rfl
     ·exact HN.out j h
     ·exact hno.out, e2⟩
    case measure => simp [RowKit.intOf]; omega
   have nv : (o != off) = false := by simpa using hv
   have hm : M = true := by rw [hmm]; exact beq_iff_eq.2 hv
   clear hv
   by_cases hc : c0 = code
   ·have q : (c0 == code) = true := beq_iff_eq.2 hc
    have hR := hx (idR_hit (n := (k : Nat)) (reg := false) hlt HN.out (by rw [HID.out]; simp [hm, hc]))
    clear hc hm hmm fa fi2
    go_wp2_with (first | (go_at_call 125; refine (HX2.out _).mono ?_; rintro e w2 ⟨rfl, e2⟩; replace e2 := er.trans e2) | (go_at_call 73; refine (HF.out _).mono ?_; rintro e w3 ⟨rfl, rfl⟩) | (go_at_call 137; refine (CF.out _).mono ?_; rintro e w4 ⟨rfl, e4⟩; replace e4 := e2.trans e4; clear CF) | (go_at_call 137; refine (CT.out _).mono ?_; rintro e w5 ⟨rfl, e5⟩; replace e5 := e4.trans e5))
    refine bodyPost_ret (results_tmp3 rfl _ _ _) rfl ?_
    exact ⟨by rw [hR.out]; rfl, e4⟩
   have q : (c0 == code) = false := beq_eq_false_iff_ne.2 hc
   cases o1 with
   | false =>
    have hno := hx (show idAt code src off imm k = none by rw [HID.out]; simp [hm, hc])
    clear hc hm hmm fa fi2
    go_wp2_with (first | (go_at_call 125; refine (HX2.out _).mono ?_; rintro e w2 ⟨rfl, e2⟩; replace e2 := er.trans e2) | (go_at_call 73; refine (HF.out _).mono ?_; rintro e w3 ⟨rfl, rfl⟩) | (go_at_call 137; refine (CF.out _).mono ?_; rintro e w4 ⟨rfl, e4⟩; replace e4 := e2.trans e4; clear CF) | (go_at_call 137; refine (CT.out _).mono ?_; rintro e w5 ⟨rfl, e5⟩; replace e5 := e4.trans e5))
    go_roundw
    case rel => exact ⟨k + 1, by omega, by simp, fun j hj => by
     rcases Nat.lt_succ_iff_lt_or_eq.1 hj with h | rfl
     ·exact HN.out j h
     ·exact hno.out, e5⟩
    case measure => simp [RowKit.intOf]; omega
   | true =>
    by_cases hd : c1 = code
    ·have q1 : (c1 == code) = true := beq_iff_eq.2 hd
     have hR := hx (idR_hit (n := (k : Nat)) (reg := true) hlt HN.out (by rw [HID.out]; simp [hm, hc, hd]))
     clear hc hd hm hmm fa fi2
     go_wp2_with (first | (go_at_call 125; refine (HX2.out _).mono ?_; rintro e w2 ⟨rfl, e2⟩; replace e2 := er.trans e2) | (go_at_call 73; refine (HF.out _).mono ?_; rintro e w3 ⟨rfl, rfl⟩) | (go_at_call 137; refine (CF.out _).mono ?_; rintro e w4 ⟨rfl, e4⟩; replace e4 := e2.trans e4; clear CF) | (go_at_call 137; refine (CT.out _).mono ?_; rintro e w5 ⟨rfl, e5⟩; replace e5 := e4.trans e5))
     refine bodyPost_ret (results_tmp3 rfl _ _ _) rfl ?_
     exact ⟨by rw [hR.out]; rfl, e5⟩
    ·have q1 : (c1 == code) = false := beq_eq_false_iff_ne.2 hd
     have hno := hx (show idAt code src off imm k = none by rw [HID.out]; simp [hm, hc, hd])
     clear hc hd hm hmm fa fi2
     go_wp2_with (first | (go_at_call 125; refine (HX2.out _).mono ?_; rintro e w2 ⟨rfl, e2⟩; replace e2 := er.trans e2) | (go_at_call 73; refine (HF.out _).mono ?_; rintro e w3 ⟨rfl, rfl⟩) | (go_at_call 137; refine (CF.out _).mono ?_; rintro e w4 ⟨rfl, e4⟩; replace e4 := e2.trans e4; clear CF) | (go_at_call 137; refine (CT.out _).mono ?_; rintro e w5 ⟨rfl, e5⟩; replace e5 := e4.trans e5))
     go_roundw
     case rel => exact ⟨k + 1, by omega, by simp, fun j hj => by
      rcases Nat.lt_succ_iff_lt_or_eq.1 hj with h | rfl
      ·exact HN.out j h
      ·exact hno.out, e5⟩
     case measure => simp [RowKit.intOf]; omega
  by_cases hi29 : k ≤ 29
  ·obtain rfl : F = 1 := fa.2.2.1 (by omega)
   have g35 : decide ((k : Int) ≥ 35) = false := decide_eq_false (by omega)
   have l43 : decide ((k : Int) ≤ 43) = true := decide_eq_true (by omega)
   have g84 : decide ((k : Int) ≥ 84) = false := decide_eq_false (by omega)
   rw [if_neg (by omega), if_neg (by rw [fi2.2 (by omega)]; decide), if_neg (by omega)] at hmm
   have hm : M = true := hmm
   by_cases hc : c0 = code
   ·have q : (c0 == code) = true := beq_iff_eq.2 hc
    have hR := hx (idR_hit (n := (k : Nat)) (reg := false) hlt HN.out (by rw [HID.out]; simp [hm, hc]))
    clear hc hm hmm fa fi2
    go_wp2_with (first | (go_at_call 125; refine (HX2.out _).mono ?_; rintro e w2 ⟨rfl, e2⟩; replace e2 := er.trans e2) | (go_at_call 73; refine (HF.out _).mono ?_; rintro e w3 ⟨rfl, rfl⟩) | (go_at_call 137; refine (CF.out _).mono ?_; rintro e w4 ⟨rfl, e4⟩; replace e4 := e2.trans e4; clear CF) | (go_at_call 137; refine (CT.out _).mono ?_; rintro e w5 ⟨rfl, e5⟩; replace e5 := e4.trans e5))
    refine bodyPost_ret (results_tmp3 rfl _ _ _) rfl ?_
    exact ⟨by rw [hR.out]; rfl, e4⟩
   have q : (c0 == code) = false := beq_eq_false_iff_ne.2 hc
   cases o1 with
   | false =>
    have hno := hx (show idAt code src off imm k = none by rw [HID.out]; simp [hm, hc])
    clear hc hm hmm fa fi2
    go_wp2_with (first | (go_at_call 125; refine (HX2.out _).mono ?_; rintro e w2 ⟨rfl, e2⟩; replace e2 := er.trans e2) | (go_at_call 73; refine (HF.out _).mono ?_; rintro e w3 ⟨rfl, rfl⟩) | (go_at_call 137; refine (CF.out _).mono ?_; rintro e w4 ⟨rfl, e4⟩; replace e4 := e2.trans e4; clear CF) | (go_at_call 137; refine (CT.out _).mono ?_; rintro e w5 ⟨rfl, e5⟩; replace e5 := e4.trans e5))
    go_roundw
    case rel => exact ⟨k + 1, by omega, by simp, fun j hj => by
     rcases Nat.lt_succ_iff_lt_or_eq.1 hj with h | rfl
     ·exact HN.out j h
     ·exact hno.out, e5⟩
    case measure => simp [RowKit.intOf]; omega
   | true =>
    by_cases hd : c1 = code
    ·have q1 : (c1 == code) = true := beq_iff_eq.2 hd
     have hR := hx (idR_hit (n := (k : Nat)) (reg := true) hlt HN.out (by rw [HID.out]; simp [hm, hc, hd]))
     clear hc hd hm hmm fa fi2
     go_wp2_with (first | (go_at_call 125; refine (HX2.out _).mono ?_; rintro e w2 ⟨rfl, e2⟩; replace e2 := er.trans e2) | (go_at_call 73; refine (HF.out _).mono ?_; rintro e w3 ⟨rfl, rfl⟩) | (go_at_call 137; refine (CF.out _).mono ?_; rintro e w4 ⟨rfl, e4⟩; replace e4 := e2.trans e4; clear CF) | (go_at_call 137; refine (CT.out _).mono ?_; rintro e w5 ⟨rfl, e5⟩; replace e5 := e4.trans e5))
     refine bodyPost_ret (results_tmp3 rfl _ _ _) rfl ?_
     exact ⟨by rw [hR.out]; rfl, e5⟩
    ·have q1 : (c1 == code) = false := beq_eq_false_iff_ne.2 hd
     have hno := hx (show idAt code src off imm k = none by rw [HID.out]; simp [hm, hc, hd])
     clear hc hd hm hmm fa fi2
     go_wp2_with (first | (go_at_call 125; refine (HX2.out _).mono ?_; rintro e w2 ⟨rfl, e2⟩; replace e2 := er.trans e2) | (go_at_call 73; refine (HF.out _).mono ?_; rintro e w3 ⟨rfl, rfl⟩) | (go_at_call 137; refine (CF.out _).mono ?_; rintro e w4 ⟨rfl, e4⟩; replace e4 := e2.trans e4; clear CF) | (go_at_call 137; refine (CT.out _).mono ?_; rintro e w5 ⟨rfl, e5⟩; replace e5 := e4.trans e5))
     go_roundw
     case rel => exact ⟨k + 1, by omega, by simp, fun j hj => by
      rcases Nat.lt_succ_iff_lt_or_eq.1 hj with h | rfl
      ·exact HN.out j h
      ·exact hno.out, e5⟩
     case measure => simp [RowKit.intOf]; omega
  by_cases hi34 : k ≤ 34
  ·obtain rfl : F = 2 := fa.2.1 (by omega)
   have g35 : decide ((k : Int) ≥ 35) = false := decide_eq_false (by omega)
   have l43 : decide ((k : Int) ≤ 43) = true := decide_eq_true (by omega)
   have g84 : decide ((k : Int) ≥ 84) = false := decide_eq_false (by omega)
   rw [if_pos (by omega)] at hmm
   by_cases hv : o = off
   case neg =>
    have nv : (o != off) = true := by simpa using hv
    have hm : M = false := by rw [hmm]; exact beq_eq_false_iff_ne.2 hv
    clear hv
    have hno := hx (show idAt code src off imm k = none by rw [HID.out]; simp [hm])
    clear hm hmm fa fi2
    go_wp2_with (first | (go_at_call 125; refine (HX2.out _).mono ?_; rintro e w2 ⟨rfl, e2⟩; replace e2 := er.trans e2) | (go_at_call 73; refine (HF.out _).mono ?_; rintro e w3 ⟨rfl, rfl⟩) | (go_at_call 137; refine (CF.out _).mono ?_; rintro e w4 ⟨rfl, e4⟩; replace e4 := e2.trans e4; clear CF) | (go_at_call 137; refine (CT.out _).mono ?_; rintro e w5 ⟨rfl, e5⟩; replace e5 := e4.trans e5))
    go_roundw
    case rel => exact ⟨k + 1, by omega, by simp, fun j hj => by
     rcases Nat.lt_succ_iff_lt_or_eq.1 hj with h | rfl
     ·exact HN.out j h
     ·exact hno.out, e2⟩
    case measure => simp [RowKit.intOf]; omega
   have nv : (o != off) = false := by simpa using hv
   have hm : M = true := by rw [hmm]; exact beq_iff_eq.2 hv
   clear hv
   by_cases hc : c0 = code
   ·have q : (c0 == code) = true := beq_iff_eq.2 hc
    have hR := hx (idR_hit (n := (k : Nat)) (reg := false) hlt HN.out (by rw [HID.out]; simp [hm, hc]))
    clear hc hm hmm fa fi2
    go_wp2_with (first | (go_at_call 125; refine (HX2.out _).mono ?_; rintro e w2 ⟨rfl, e2⟩; replace e2 := er.trans e2) | (go_at_call 73; refine (HF.out _).mono ?_; rintro e w3 ⟨rfl, rfl⟩) | (go_at_call 137; refine (CF.out _).mono ?_; rintro e w4 ⟨rfl, e4⟩; replace e4 := e2.trans e4; clear CF) | (go_at_call 137; refine (CT.out _).mono ?_; rintro e w5 ⟨rfl, e5⟩; replace e5 := e4.trans e5))
    refine bodyPost_ret (results_tmp3 rfl _ _ _) rfl ?_
    exact ⟨by rw [hR.out]; rfl, e4⟩
   have q : (c0 == code) = false := beq_eq_false_iff_ne.2 hc
   cases o1 with
   | false =>
    have hno := hx (show idAt code src off imm k = none by rw [HID.out]; simp [hm, hc])
    clear hc hm hmm fa fi2
    go_wp2_with (first | (go_at_call 125; refine (HX2.out _).mono ?_; rintro e w2 ⟨rfl, e2⟩; replace e2 := er.trans e2) | (go_at_call 73; refine (HF.out _).mono ?_; rintro e w3 ⟨rfl, rfl⟩) | (go_at_call 137; refine (CF.out _).mono ?_; rintro e w4 ⟨rfl, e4⟩; replace e4 := e2.trans e4; clear CF) | (go_at_call 137; refine (CT.out _).mono ?_; rintro e w5 ⟨rfl, e5⟩; replace e5 := e4.trans e5))
    go_roundw
    case rel => exact ⟨k + 1, by omega, by simp, fun j hj => by
     rcases Nat.lt_succ_iff_lt_or_eq.1 hj with h | rfl
     ·exact HN.out j h
     ·exact hno.out, e5⟩
    case measure => simp [RowKit.intOf]; omega
   | true =>
    by_cases hd : c1 = code
    ·have q1 : (c1 == code) = true := beq_iff_eq.2 hd
     have hR := hx (idR_hit (n := (k : Nat)) (reg := true) hlt HN.out (by rw [HID.out]; simp [hm, hc, hd]))
     clear hc hd hm hmm fa fi2
     go_wp2_with (first | (go_at_call 125; refine (HX2.out _).mono ?_; rintro e w2 ⟨rfl, e2⟩; replace e2 := er.trans e2) | (go_at_call 73; refine (HF.out _).mono ?_; rintro e w3 ⟨rfl, rfl⟩) | (go_at_call 137; refine (CF.out _).mono ?_; rintro e w4 ⟨rfl, e4⟩; replace e4 := e2.trans e4; clear CF) | (go_at_call 137; refine (CT.out _).mono ?_; rintro e w5 ⟨rfl, e5⟩; replace e5 := e4.trans e5))
     refine bodyPost_ret (results_tmp3 rfl _ _ _) rfl ?_
     exact ⟨by rw [hR.out]; rfl, e5⟩
    ·have q1 : (c1 == code) = false := beq_eq_false_iff_ne.2 hd
     have hno := hx (show idAt code src off imm k = none by rw [HID.out]; simp [hm, hc, hd])
     clear hc hd hm hmm fa fi2
     go_wp2_with (first | (go_at_call 125; refine (HX2.out _).mono ?_; rintro e w2 ⟨rfl, e2⟩; replace e2 := er.trans e2) | (go_at_call 73; refine (HF.out _).mono ?_; rintro e w3 ⟨rfl, rfl⟩) | (go_at_call 137; refine (CF.out _).mono ?_; rintro e w4 ⟨rfl, e4⟩; replace e4 := e2.trans e4; clear CF) | (go_at_call 137; refine (CT.out _).mono ?_; rintro e w5 ⟨rfl, e5⟩; replace e5 := e4.trans e5))
     go_roundw
     case rel => exact ⟨k + 1, by omega, by simp, fun j hj => by
      rcases Nat.lt_succ_iff_lt_or_eq.1 hj with h | rfl
      ·exact HN.out j h
      ·exact hno.out, e5⟩
     case measure => simp [RowKit.intOf]; omega
  by_cases hi43 : k ≤ 43
  ·obtain rfl : F = 1 := fa.2.2.1 (by omega)
   have g35 : decide ((k : Int) ≥ 35) = true := decide_eq_true (by omega)
   have l43 : decide ((k : Int) ≤ 43) = true := decide_eq_true (by omega)
   have g84 : decide ((k : Int) ≥ 84) = false := decide_eq_false (by omega)
   rw [if_neg (by omega), if_pos (fi2.1 (by omega))] at hmm
   by_cases hv : i = imm
   case neg =>
    have nv : (i != imm) = true := by simpa using hv
    have hm : M = false := by rw [hmm]; exact beq_eq_false_iff_ne.2 hv
    clear hv
    have hno := hx (show idAt code src off imm k = none by rw [HID.out]; simp [hm])
    clear hm hmm fa fi2
    go_wp2_with (first | (go_at_call 125; refine (HX2.out _).mono ?_; rintro e w2 ⟨rfl, e2⟩; replace e2 := er.trans e2) | (go_at_call 73; refine (HF.out _).mono ?_; rintro e w3 ⟨rfl, rfl⟩) | (go_at_call 137; refine (CF.out _).mono ?_; rintro e w4 ⟨rfl, e4⟩; replace e4 := e2.trans e4; clear CF) | (go_at_call 137; refine (CT.out _).mono ?_; rintro e w5 ⟨rfl, e5⟩; replace e5 := e4.trans e5))
    go_roundw
    case rel => exact ⟨k + 1, by omega, by simp, fun j hj => by
     rcases Nat.lt_succ_iff_lt_or_eq.1 hj with h | rfl
     ·exact HN.out j h
     ·exact hno.out, e2⟩
    case measure => simp [RowKit.intOf]; omega
   have nv : (i != imm) = false := by simpa using hv
   have hm : M = true := by rw [hmm]; exact beq_iff_eq.2 hv
   clear hv
   by_cases hc : c0 = code
   ·have q : (c0 == code) = true := beq_iff_eq.2 hc
    have hR := hx (idR_hit (n := (k : Nat)) (reg := false) hlt HN.out (by rw [HID.out]; simp [hm, hc]))
    clear hc hm hmm fa fi2
    go_wp2_with (first | (go_at_call 125; refine (HX2.out _).mono ?_; rintro e w2 ⟨rfl, e2⟩; replace e2 := er.trans e2) | (go_at_call 73; refine (HF.out _).mono ?_; rintro e w3 ⟨rfl, rfl⟩) | (go_at_call 137; refine (CF.out _).mono ?_; rintro e w4 ⟨rfl, e4⟩; replace e4 := e2.trans e4; clear CF) | (go_at_call 137; refine (CT.out _).mono ?_; rintro e w5 ⟨rfl, e5⟩; replace e5 := e4.trans e5))
    refine bodyPost_ret (results_tmp3 rfl _ _ _) rfl ?_
    exact ⟨by rw [hR.out]; rfl, e4⟩
   have q : (c0 == code) = false := beq_eq_false_iff_ne.2 hc
   cases o1 with
   | false =>
    have hno := hx (show idAt code src off imm k = none by rw [HID.out]; simp [hm, hc])
    clear hc hm hmm fa fi2
    go_wp2_with (first | (go_at_call 125; refine (HX2.out _).mono ?_; rintro e w2 ⟨rfl, e2⟩; replace e2 := er.trans e2) | (go_at_call 73; refine (HF.out _).mono ?_; rintro e w3 ⟨rfl, rfl⟩) | (go_at_call 137; refine (CF.out _).mono ?_; rintro e w4 ⟨rfl, e4⟩; replace e4 := e2.trans e4; clear CF) | (go_at_call 137; refine (CT.out _).mono ?_; rintro e w5 ⟨rfl, e5⟩; replace e5 := e4.trans e5))
    go_roundw
    case rel => exact ⟨k + 1, by omega, by simp, fun j hj => by
     rcases Nat.lt_succ_iff_lt_or_eq.1 hj with h | rfl
     ·exact HN.out j h
     ·exact hno.out, e5⟩
    case measure => simp [RowKit.intOf]; omega
   | true =>
    by_cases hd : c1 = code
    ·have q1 : (c1 == code) = true := beq_iff_eq.2 hd
     have hR := hx (idR_hit (n := (k : Nat)) (reg := true) hlt HN.out (by rw [HID.out]; simp [hm, hc, hd]))
     clear hc hd hm hmm fa fi2
     go_wp2_with (first | (go_at_call 125; refine (HX2.out _).mono ?_; rintro e w2 ⟨rfl, e2⟩; replace e2 := er.trans e2) | (go_at_call 73; refine (HF.out _).mono ?_; rintro e w3 ⟨rfl, rfl⟩) | (go_at_call 137; refine (CF.out _).mono ?_; rintro e w4 ⟨rfl, e4⟩; replace e4 := e2.trans e4; clear CF) | (go_at_call 137; refine (CT.out _).mono ?_; rintro e w5 ⟨rfl, e5⟩; replace e5 := e4.trans e5))
     refine bodyPost_ret (results_tmp3 rfl _ _ _) rfl ?_
     exact ⟨by rw [hR.out]; rfl, e5⟩
    ·have q1 : (c1 == code) = false := beq_eq_false_iff_ne.2 hd
     have hno := hx (show idAt code src off imm k = none by rw [HID.out]; simp [hm, hc, hd])
     clear hc hd hm hmm fa fi2
     go_wp2_with (first | (go_at_call 125; refine (HX2.out _).mono ?_; rintro e w2 ⟨rfl, e2⟩; replace e2 := er.trans e2) | (go_at_call 73; refine (HF.out _).mono ?_; rintro e w3 ⟨rfl, rfl⟩) | (go_at_call 137; refine (CF.out _).mono ?_; rintro e w4 ⟨rfl, e4⟩; replace e4 := e2.trans e4; clear CF) | (go_at_call 137; refine (CT.out _).mono ?_; rintro e w5 ⟨rfl, e5⟩; replace e5 := e4.trans e5))
     go_roundw
     case rel => exact ⟨k + 1, by omega, by simp, fun j hj => by
      rcases Nat.lt_succ_iff_lt_or_eq.1 hj with h | rfl
      ·exact HN.out j h
      ·exact hno.out, e5⟩
     case measure => simp [RowKit.intOf]; omega
  by_cases hi83 : k ≤ 83
  ·have ff := fa.2.2.2.1 (by omega)
   have f0 : (F == 0) = false := beq_eq_false_iff_ne.2 ff.1
   have f2 : (F == 2) = false := beq_eq_false_iff_ne.2 ff.2.1
   have g35 : decide ((k : Int) ≥ 35) = true := decide_eq_true (by omega)
   have l43 : decide ((k : Int) ≤ 43) = false := decide_eq_false (by omega)
   have g84 : decide ((k : Int) ≥ 84) = false := decide_eq_false (by omega)
   rw [if_neg (by omega), if_neg (by rw [fi2.2 (by omega)]; decide), if_neg (by omega)] at hmm
   have hm : M = true := hmm
   clear ff
   by_cases hc : c0 = code
   ·have q : (c0 == code) = true := beq_iff_eq.2 hc
    have hR := hx (idR_hit (n := (k : Nat)) (reg := false) hlt HN.out (by rw [HID.out]; simp [hm, hc]))
    clear hc hm hmm fa fi2
    go_wp2_with (first | (go_at_call 125; refine (HX2.out _).mono ?_; rintro e w2 ⟨rfl, e2⟩; replace e2 := er.trans e2) | (go_at_call 73; refine (HF.out _).mono ?_; rintro e w3 ⟨rfl, rfl⟩) | (go_at_call 137; refine (CF.out _).mono ?_; rintro e w4 ⟨rfl, e4⟩; replace e4 := e2.trans e4; clear CF) | (go_at_call 137; refine (CT.out _).mono ?_; rintro e w5 ⟨rfl, e5⟩; replace e5 := e4.trans e5))
    refine bodyPost_ret (results_tmp3 rfl _ _ _) rfl ?_
    exact ⟨by rw [hR.out]; rfl, e4⟩
   have q : (c0 == code) = false := beq_eq_false_iff_ne.2 hc
   cases o1 with
   | false =>
    have hno := hx (show idAt code src off imm k = none by rw [HID.out]; simp [hm, hc])
    clear hc hm hmm fa fi2
    go_wp2_with (first | (go_at_call 125; refine (HX2.out _).mono ?_; rintro e w2 ⟨rfl, e2⟩; replace e2 := er.trans e2) | (go_at_call 73; refine (HF.out _).mono ?_; rintro e w3 ⟨rfl, rfl⟩) | (go_at_call 137; refine (CF.out _).mono ?_; rintro e w4 ⟨rfl, e4⟩; replace e4 := e2.trans e4; clear CF) | (go_at_call 137; refine (CT.out _).mono ?_; rintro e w5 ⟨rfl, e5⟩; replace e5 := e4.trans e5))
    go_roundw
    case rel => exact ⟨k + 1, by omega, by simp, fun j hj => by
     rcases Nat.lt_succ_iff_lt_or_eq.1 hj with h | rfl
     ·exact HN.out j h
     ·exact hno.out, e5⟩
    case measure => simp [RowKit.intOf]; omega
   | true =>
    by_cases hd : c1 = code
    ·have q1 : (c1 == code) = true := beq_iff_eq.2 hd
     have hR := hx (idR_hit (n := (k : Nat)) (reg := true) hlt HN.out (by rw [HID.out]; simp [hm, hc, hd]))
     clear hc hd hm hmm fa fi2
     go_wp2_with (first | (go_at_call 125; refine (HX2.out _).mono ?_; rintro e w2 ⟨rfl, e2⟩; replace e2 := er.trans e2) | (go_at_call 73; refine (HF.out _).mono ?_; rintro e w3 ⟨rfl, rfl⟩) | (go_at_call 137; refine (CF.out _).mono ?_; rintro e w4 ⟨rfl, e4⟩; replace e4 := e2.trans e4; clear CF) | (go_at_call 137; refine (CT.out _).mono ?_; rintro e w5 ⟨rfl, e5⟩; replace e5 := e4.trans e5))
     refine bodyPost_ret (results_tmp3 rfl _ _ _) rfl ?_
     exact ⟨by rw [hR.out]; rfl, e5⟩
    ·have q1 : (c1 == code) = false := beq_eq_false_iff_ne.2 hd
     have hno := hx (show idAt code src off imm k = none by rw [HID.out]; simp [hm, hc, hd])
     clear hc hd hm hmm fa fi2
     go_wp2_with (first | (go_at_call 125; refine (HX2.out _).mono ?_; rintro e w2 ⟨rfl, e2⟩; replace e2 := er.trans e2) | (go_at_call 73; refine (HF.out _).mono ?_; rintro e w3 ⟨rfl, rfl⟩) | (go_at_call 137; refine (CF.out _).mono ?_; rintro e w4 ⟨rfl, e4⟩; replace e4 := e2.trans e4; clear CF) | (go_at_call 137; refine (CT.out _).mono ?_; rintro e w5 ⟨rfl, e5⟩; replace e5 := e4.trans e5))
     go_roundw
     case rel => exact ⟨k + 1, by omega, by simp, fun j hj => by
      rcases Nat.lt_succ_iff_lt_or_eq.1 hj with h | rfl
      ·exact HN.out j h
      ·exact hno.out, e5⟩
     case measure => simp [RowKit.intOf]; omega
  have ff := fa.2.2.2.2 (by omega)
  have f0 : (F == 0) = false := beq_eq_false_iff_ne.2 (by omega)
  have f2 : (F == 2) = false := beq_eq_false_iff_ne.2 (by omega)
  have g35 : decide ((k : Int) ≥ 35) = true := decide_eq_true (by omega)
  have l43 : decide ((k : Int) ≤ 43) = false := decide_eq_false (by omega)
  have g84 : decide ((k : Int) ≥ 84) = true := decide_eq_true (by omega)
  rw [if_neg (by omega), if_neg (by rw [fi2.2 (by omega)]; decide), if_pos ff] at hmm
  by_cases hv : s = src
  case neg =>
   have nv : (s != src) = true := by simpa using hv
   have hm : M = false := by rw [hmm]; exact beq_eq_false_iff_ne.2 hv
   clear hv ff
   have hno := hx (show idAt code src off imm k = none by rw [HID.out]; simp [hm])
   clear hm hmm fa fi2
   go_wp2_with (first | (go_at_call 125; refine (HX2.out _).mono ?_; rintro e w2 ⟨rfl, e2⟩; replace e2 := er.trans e2) | (go_at_call 73; refine (HF.out _).mono ?_; rintro e w3 ⟨rfl, rfl⟩) | (go_at_call 137; refine (CF.out _).mono ?_; rintro e w4 ⟨rfl, e4⟩; replace e4 := e2.trans e4; clear CF) | (go_at_call 137; refine (CT.out _).mono ?_; rintro e w5 ⟨rfl, e5⟩; replace e5 := e4.trans e5))
   go_roundw
   case rel => exact ⟨k + 1, by omega, by simp, fun j hj => by
    rcases Nat.lt_succ_iff_lt_or_eq.1 hj with h | rfl
    ·exact HN.out j h
    ·exact hno.out, e2⟩
   case measure => simp [RowKit.intOf]; omega
  have nv : (s != src) = false := by simpa using hv
  have hm : M = true := by rw [hmm]; exact beq_iff_eq.2 hv
  clear hv ff
  by_cases hc : c0 = code
  ·have q : (c0 == code) = true := beq_iff_eq.2 hc
   have hR := hx (idR_hit (n := (k : Nat)) (reg := false) hlt HN.out (by rw [HID.out]; simp [hm, hc]))
   clear hc hm hmm fa fi2
   go_wp2_with (first | (go_at_call 125; refine (HX2.out _).mono ?_; rintro e w2 ⟨rfl, e2⟩; replace e2 := er.trans e2) | (go_at_call 73; refine (HF.out _).mono ?_; rintro e w3 ⟨rfl, rfl⟩) | (go_at_call 137; refine (CF.out _).mono ?_; rintro e w4 ⟨rfl, e4⟩; replace e4 := e2.trans e4; clear CF) | (go_at_call 137; refine (CT.out _).mono ?_; rintro e w5 ⟨rfl, e5⟩; replace e5 := e4.trans e5))
   refine bodyPost_ret (results_tmp3 rfl _ _ _) rfl ?_
   exact ⟨by rw [hR.out]; rfl, e4⟩
  have q : (c0 == code) = false := beq_eq_false_iff_ne.2 hc
  cases o1 with
  | false =>
   have hno := hx (show idAt code src off imm k = none by rw [HID.out]; simp [hm, hc])
   clear hc hm hmm fa fi2
   go_wp2_with (first | (go_at_call 125; refine (HX2.out _).mono ?_; rintro e w2 ⟨rfl, e2⟩; replace e2 := er.trans e2) | (go_at_call 73; refine (HF.out _).mono ?_; rintro e w3 ⟨rfl, rfl⟩) | (go_at_call 137; refine (CF.out _).mono ?_; rintro e w4 ⟨rfl, e4⟩; replace e4 := e2.trans e4; clear CF) | (go_at_call 137; refine (CT.out _).mono ?_; rintro e w5 ⟨rfl, e5⟩; replace e5 := e4.trans e5))
   go_roundw
   case rel => exact ⟨k + 1, by omega, by simp, fun j hj => by
    rcases Nat.lt_succ_iff_lt_or_eq.1 hj with h | rfl
    ·exact HN.out j h
    ·exact hno.out, e5⟩
   case measure => simp [RowKit.intOf]; omega
  | true =>
   by_cases hd : c1 = code
   ·have q1 : (c1 == code) = true := beq_iff_eq.2 hd
    have hR := hx (idR_hit (n := (k : Nat)) (reg := true) hlt HN.out (by rw [HID.out]; simp [hm, hc, hd]))
    clear hc hd hm hmm fa fi2
    go_wp2_with (first | (go_at_call 125; refine (HX2.out _).mono ?_; rintro e w2 ⟨rfl, e2⟩; replace e2 := er.trans e2) | (go_at_call 73; refine (HF.out _).mono ?_; rintro e w3 ⟨rfl, rfl⟩) | (go_at_call 137; refine (CF.out _).mono ?_; rintro e w4 ⟨rfl, e4⟩; replace e4 := e2.trans e4; clear CF) | (go_at_call 137; refine (CT.out _).mono ?_; rintro e w5 ⟨rfl, e5⟩; replace e5 := e4.trans e5))
    refine bodyPost_ret (results_tmp3 rfl _ _ _) rfl ?_
    exact ⟨by rw [hR.out]; rfl, e5⟩
   ·have q1 : (c1 == code) = false := beq_eq_false_iff_ne.2 hd
    have hno := hx (show idAt code src off imm k = none by rw [HID.out]; simp [hm, hc, hd])
    clear hc hd hm hmm fa fi2
    go_wp2_with (first | (go_at_call 125; refine (HX2.out _).mono ?_; rintro e w2 ⟨rfl, e2⟩; replace e2 := er.trans e2) | (go_at_call 73; refine (HF.out _).mono ?_; rintro e w3 ⟨rfl, rfl⟩) | (go_at_call 137; refine (CF.out _).mono ?_; rintro e w4 ⟨rfl, e4⟩; replace e4 := e2.trans e4; clear CF) | (go_at_call 137; refine (CT.out _).mono ?_; rintro e w5 ⟨rfl, e5⟩; replace e5 := e4.trans e5))
    go_roundw
    case rel => exact ⟨k + 1, by omega, by simp, fun j hj => by
     rcases Nat.lt_succ_iff_lt_or_eq.1 hj with h | rfl
     ·exact HN.out j h
     ·exact hno.out, e5⟩
    case measure => simp [RowKit.intOf]; omega
end Go.Proofs.YtiaddncjghkajaaGreatDoor
