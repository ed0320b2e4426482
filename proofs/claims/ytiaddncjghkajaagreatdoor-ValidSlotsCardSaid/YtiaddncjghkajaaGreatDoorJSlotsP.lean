/- The layer valid: the slot of an error is one of the slots of the code. -/
import Derived.Test.YtiaddncjghkajaaGreatDoorJJoinR
import Derived.Test.YtiaddncjghkajaaGreatDoorJPaBig
set_option linter.unusedVariables false
set_option linter.unusedSimpArgs false
namespace Go.Proofs.YtiaddncjghkajaaGreatDoor
open Go.RowKit

theorem fstN_some {p : Ins → Bool} {L : List Ins} {s : Int} (h : fstN p L = some s) : ∃ i, i < L.length ∧ s = slotsT (L.take i) := by
 unfold fstN at h
 obtain ⟨k, hk, hr⟩ := List.exists_of_findSome?_eq_some h
 split at hr
 ·injection hr with hr; exact ⟨k, by simpa using hk, hr.symm⟩
 ·cases hr
theorem lkN_some {L : List Ins} {rs : List Rel} {n : Nat} {s : Int} (h : lkN L rs n = some s) : ∃ k : Nat, k < n ∧ s = k := by
 unfold lkN at h
 obtain ⟨k, hk, hr⟩ := List.exists_of_findSome?_eq_some h
 split at hr
 ·injection hr with hr; exact ⟨k, by simpa using hk, hr.symm⟩
 ·cases hr
theorem rest17_form (L : List Ins) (rs : List Rel) (n : Nat) (hL : 0 < L.length) : rest17 L rs n 0 = (0, 0) ∨ (∃ i, i < L.length ∧ (rest17 L rs n 0).1 = slotsT (L.take i)) ∨ ((rest17 L rs n 0).2 = 18 ∧ ∃ k : Nat, k < n ∧ (rest17 L rs n 0).1 = k) := by
 cases h1 : fstN fieldP L with
 | some s => rw [r17_0s h1]; exact .inr (.inl (fstN_some h1))
 | none =>
  rw [r17_0n h1]
  cases h2 : lkN L rs n with
  | some s => rw [r17_1s h2]; exact .inr (.inr ⟨rfl, lkN_some h2⟩)
  | none =>
   rw [r17_1n h2]
   rcases tgtBad_bd L with hb | ⟨k, hb, hk⟩
   ·rw [r17_2n hb]
    cases h4 : fstN writeP L with
    | some s => rw [r17_3s h4]; exact .inr (.inl (fstN_some h4))
    | none =>
     rw [r17_3n h4]
     obtain ⟨k, hk⟩ : ∃ k, L.length = k + 1 := ⟨L.length - 1, by omega⟩
     cases h5 : endsX (L.getD k default) with
     | true => rw [r17_4n hk h5]; exact .inl rfl
     | false => rw [r17_4s hk h5]; exact .inr (.inl ⟨k, by omega, rfl⟩)
   ·rw [r17_2s hb]; exact .inr (.inl ⟨k, hk, rfl⟩)
theorem allS_bd : ∀ (n : Nat) (b : List Int) (k : Int), (allS k (stepsF n b)).2 ≠ 0 → k ≤ (allS k (stepsF n b)).1 ∧ 8 * ((allS k (stepsF n b)).1 - k) < (b.length : Int) := by
 intro n
 induction n with
 | zero => intro b k h; exact absurd rfl h
 | succ n ih =>
  intro b k h
  rw [stepsF_succ] at h ⊢
  by_cases hb : b = []
  ·rw [if_pos hb] at h; exact absurd rfl h
  ·rw [if_neg hb] at h ⊢
   have hbl : 0 < b.length := List.length_pos_iff.2 hb
   rw [allS] at h ⊢
   by_cases h0 : decE b = 0
   ·rw [if_pos h0, if_pos h0] at h ⊢
    dsimp only at h ⊢
    have h1 := ih _ _ h
    have h3 : decN b = 1 ∨ decN b = 2 := by have := decX_op h0; rw [this.1] at this; exact this.2
    rw [List.length_drop] at h1
    generalize (allS (k + decN b) (stepsF n (b.drop (8 * (decN b).toNat)))).1 = R at *
    have h4 : 8 * (decN b).toNat ≤ b.length := by
     rcases decE_ok h0 with h5 | h5 <;> · have := h5.1; rw [this]; have := h5.2; simp; omega
    obtain ⟨h6, h7⟩ := h1
    constructor
    ·omega
    ·rcases h3 with h3 | h3 <;> · rw [h3] at h6 h7 h4; simp at h4; omega
   ·rw [if_neg h0] at h ⊢
    dsimp only
    omega
theorem allAt_bd {b : List Int} (h : allE b ≠ 0) : 0 ≤ allAt b ∧ 8 * allAt b < (b.length : Int) := by
 have := allS_bd _ b 0 h
 unfold allAt stepsN
 omega
theorem chk17_slots (o : Ob) : 0 ≤ (chk17 o).1 ∧ ((chk17 o).1 = 0 ∨ 8 * (chk17 o).1 < (o.code.length : Int)) := by
 by_cases h1 : obE o = 0
 ·by_cases h2 : allE o.code = 0
  ·rw [chk17_rest h1 h2]
   have hp := obE_parts h1
   have hne : o.code ≠ [] := fun e => hp.2.2.2.1 (by rw [e]; rfl)
   rcases rest17_form (allI o.code) o.rels (o.code.length / 8) (allI_ne hne h2) with h | ⟨i, hi, h⟩ | ⟨-, k, hk, h⟩
   ·rw [h]; exact ⟨Int.le_refl _, .inl rfl⟩
   ·rw [h]; have h3 := allI_st i hi; have h4 := (slotsT_bd ((allI o.code).take i)).1; omega
   ·rw [h]; omega
  ·rw [chk17_all h1 h2]
   have := allAt_bd h2
   exact ⟨this.1, .inr this.2⟩
 ·rw [chk17_ob h1]; exact ⟨Int.le_refl _, .inl rfl⟩
theorem chk17_at {o : Ob} (he : (chk17 o).2 ≠ 0) (ha : (chk17 o).1 ≠ 0) (h2 : allE o.code = 0) : (chk17 o).1 > 0 ∧ (chk17 o).1 < (o.code.length : Int) / 8 ∧ ((chk17 o).2 = 18 ∨ atN (allI o.code) (chk17 o).1 ≥ 0) := by
 by_cases h1 : obE o = 0
 ·rw [chk17_rest h1 h2] at he ha ⊢
  have hp := obE_parts h1
  have hne : o.code ≠ [] := fun e => hp.2.2.2.1 (by rw [e]; rfl)
  have h8 := hp.2.2.1
  rcases rest17_form (allI o.code) o.rels (o.code.length / 8) (allI_ne hne h2) with h | ⟨i, hi, h⟩ | ⟨h5, k, hk, h⟩
  ·rw [h] at ha; exact absurd rfl ha
  ·rw [h] at ha ⊢
   have h3 := allI_st i hi
   have h4 := (slotsT_bd ((allI o.code).take i)).1
   have h6 : atN (allI o.code) (slotsT ((allI o.code).take i)) = i := atN_hit hi (fun j hj => by have := st_lt (allI_slots o.code) i (by omega) j hj; omega) rfl
   refine ⟨by omega, by omega, .inr (by rw [h6]; omega)⟩
  ·rw [h] at ha ⊢
   exact ⟨by omega, by omega, .inl h5⟩
 ·rw [chk17_ob h1] at ha; exact absurd rfl ha
end Go.Proofs.YtiaddncjghkajaaGreatDoor


set_option linter.unusedVariables false
set_option linter.unusedSimpArgs false
namespace Go.Proofs.YtiaddncjghkajaaGreatDoor
open Go.RowKit Go.Lib

set_option maxRecDepth 40000 in
set_option maxHeartbeats 8000000 in
theorem validSlots_any (v : Value) (o : Ob) (w : World) (h : IsOb w v o) (hG : Glob w) (hN : NoneV w) (hO : OpsN w) (hWd : WidN w) :
  Calls Tryz.prog 12 #[v] w fun e w' => e = .returned (.bool true) ∧ Ext w w' := by
 obtain ⟨A1, c1, A2, c2, A3, c3, rfl, h'⟩ := isOb_form h
 obtain ⟨W0, hW0⟩ : ∃ W0, W0 = w.alloc (.cells #[.slice A1 o.maps.length c1, .slice A2 o.code.length c2, .slice A3 o.rels.length c3] 26) := ⟨_, rfl⟩
 have e0 : Ext w W0 := by rw [hW0]; exact Ext.new _ _
 have r0 : RowO W0 w.heap.size (.slice A1 o.maps.length c1) (.slice A2 o.code.length c2) (.slice A3 o.rels.length c3) := by rw [hW0]; exact rowO_new _ _ _ _
 have hF := Few_any _ o W0 (h'.ext e0)
 have CA := hx fun (W : World) (hW : Ext w W) => alive17_any W (hG.ext hW) (hN.ext hW) (hO.ext hW) (hWd.ext hW)
 rw [hW0] at hF
 have HW0 := hx hW0
 rcases fewI_val o.maps.length o.code.length o.rels.length with hf | hf
 ·rw [hf] at hF
  clear hf hW0 h h' hG hN hO hWd
  go_enter Tryz.func12, Tryz.ntmps12
  go_wp2_with (first
   | (go_at_call 13; refine hF.mono ?_; rintro e w1 ⟨rfl, e1⟩; rw [← HW0.out] at e1)
   | (go_at_call 29; refine (CA.out _ (e0.trans e1)).mono ?_; rintro e w2 ⟨rfl, e2⟩))
  go_ret
  exact ⟨rfl, (e0.trans e1).trans e2⟩
 ·have hb := fewI_one (n1 := o.maps.length) (n2 := o.code.length) (n3 := o.rels.length) (by rw [hf]; decide)
  obtain ⟨hb2, hb1, hb3⟩ := hb
  rw [hf] at hF
  have CK := hx fun (W : World) (hW : Ext w W) => valid_Check_any _ o W (h'.ext hW) (by omega) (by omega) (hG.ext hW) (hN.ext hW) (hO.ext hW) (hWd.ext hW)
  have hbb : IsB w (.slice A2 o.code.length c2) o.code := by
   obtain ⟨_, _, _, h1, _, h2, h3⟩ := h'
   injection h1 with h1
   simp only [Array.mk.injEq, List.cons.injEq, and_true] at h1
   obtain ⟨-, rfl, rfl⟩ := h1
   exact h2
  have CL := hx fun (W : World) (hW : Ext w W) => refAll_any _ o.code W (IsB.ext hbb hW) (by omega)
  have hll : (allI o.code).length ≤ 1000000 := by have := allI_len o.code; omega
  have hst := chk17_slots o
  have hat := fun h1 h2 h3 => chk17_at (o := o) h1 h2 h3
  generalize o.code.length = nc at *
  have hw7 : wrap64 ((nc : Int) + 7) = (nc : Int) + 7 := wrapL _ (by omega) (by omega)
  obtain ⟨q7, hq7⟩ : ∃ q : Nat, q = (nc + 7) / 8 := ⟨_, rfl⟩
  obtain ⟨q8, hq8⟩ : ∃ q : Nat, q = nc / 8 := ⟨_, rfl⟩
  have ht7 : Int.tdiv ((nc : Int) + 7) 8 = (q7 : Int) := by rw [Int.tdiv_eq_ediv_of_nonneg (by omega)]; omega
  have ht8 : Int.tdiv (nc : Int) 8 = (q8 : Int) := by rw [Int.tdiv_eq_ediv_of_nonneg (by omega)]; omega
  have hg : decide ((chk17 o).1 ≥ 0) = true := decide_eq_true hst.1
  have hs7 : (chk17 o).1 ≠ 0 → decide ((chk17 o).1 < (q7 : Int)) = true := fun h0 => decide_eq_true (by have := hst.2.resolve_left h0; omega)
  have hs8 : (chk17 o).2 ≠ 0 → (chk17 o).1 ≠ 0 → allE o.code = 0 → decide ((chk17 o).1 > 0) = true ∧ decide ((chk17 o).1 < (q8 : Int)) = true ∧ ((chk17 o).2 = 18 ∨ decide (atN (allI o.code) (chk17 o).1 ≥ 0) = true) := fun h1 h2 h3 => by
   have := hat h1 h2 h3
   refine ⟨decide_eq_true this.1, decide_eq_true (by have := this.2.1; omega), this.2.2.imp id fun h => decide_eq_true h⟩
  have HW7 := hx hw7
  have HT7 := hx ht7
  have HT8 := hx ht8
  have HU7 := hx (show wrap64 (q7 : Int) = (q7 : Int) from wrapL _ (by omega) (by omega))
  have HU8 := hx (show wrap64 (q8 : Int) = (q8 : Int) from wrapL _ (by omega) (by omega))
  have HG := hx hg
  have HS7 := hx hs7
  have HS8 := hx hs8
  have HLL := hx hll
  clear hw7 ht7 ht8 hg hs7 hs8 hst hat hll hbb hq7 hq8
  have CAT := hx fun (C1 : Int) (v : Value) (W : World) (hv : IsIns W v (allI o.code)) => refAt_any v _ C1 W hv HLL.out
  generalize allI o.code = L at *
  generalize allE o.code = AE at *
  generalize allAt o.code = AT at *
  generalize L.length = ll at *
  generalize (chk17 o).1 = C1 at *
  generalize (chk17 o).2 = C2 at *
  clear hf hb1 hb2 hb3 hW0 h h' hG hN hO hWd
  generalize o.maps.length = nm at *
  generalize o.rels.length = nr at *
  by_cases hz : C2 = 0
  ·subst hz
   clear HS8
   by_cases h1 : C1 = 0
   ·subst h1
    clear HS7
    have hg := HG.out
    have hw7 := HW7.out
    have ht7 := HT7.out
    have ht8 := HT8.out
    have hu7 := HU7.out
    have hu8 := HU8.out
    go_enter Tryz.func12, Tryz.ntmps12
    go_wp2_with fail
    refine hF.mono ?_
    rintro e w1 ⟨rfl, e1⟩
    rw [← HW0.out] at e1
    have r1 := r0.ext e1
    have k0 := r1.c0
    have k1 := r1.c1
    have k2 := r1.c2
    have E1 := e0.trans e1
    clear hF HW0 e0 e1 r0
    go_wp2_with fail
    refine (CK.out w1 E1).mono ?_
    rintro e w2 ⟨rfl, e2⟩
    replace k1 := e2.cell k1
    have E2 := E1.trans e2
    clear CK E1 e2 r1 k0 k2
    go_wp2_with fail
    refine (CL.out w2 E2).mono ?_
    rintro e w3 ⟨v3, rfl, i3, e3⟩
    obtain ⟨A6, c6, rfl, -, -, i4⟩ := i3.form
    replace k1 := e3.cell k1
    have E3 := E2.trans e3
    clear CL E2 e3 i3
    go_wp2_with fail
    refine (CA.out w3 E3).mono ?_
    rintro e w4 ⟨rfl, e4⟩
    replace k1 := e4.cell k1
    have E4 := hx (E3.trans e4)
    clear CA E3 e4 i4 CAT
    go_wp2
    go_ret
    exact ⟨ret_bool (by simp_all), E4.out⟩
   ·have hb1 : (C1 == 0) = false := by simpa using h1
    have hs7 := HS7.out h1
    clear h1 HS7
    have hg := HG.out
    have hw7 := HW7.out
    have ht7 := HT7.out
    have ht8 := HT8.out
    have hu7 := HU7.out
    have hu8 := HU8.out
    go_enter Tryz.func12, Tryz.ntmps12
    go_wp2_with fail
    refine hF.mono ?_
    rintro e w1 ⟨rfl, e1⟩
    rw [← HW0.out] at e1
    have r1 := r0.ext e1
    have k0 := r1.c0
    have k1 := r1.c1
    have k2 := r1.c2
    have E1 := e0.trans e1
    clear hF HW0 e0 e1 r0
    go_wp2_with fail
    refine (CK.out w1 E1).mono ?_
    rintro e w2 ⟨rfl, e2⟩
    replace k1 := e2.cell k1
    have E2 := E1.trans e2
    clear CK E1 e2 r1 k0 k2
    go_wp2_with fail
    refine (CL.out w2 E2).mono ?_
    rintro e w3 ⟨v3, rfl, i3, e3⟩
    obtain ⟨A6, c6, rfl, -, -, i4⟩ := i3.form
    replace k1 := e3.cell k1
    have E3 := E2.trans e3
    clear CL E2 e3 i3
    go_wp2_with fail
    refine (CA.out w3 E3).mono ?_
    rintro e w4 ⟨rfl, e4⟩
    replace k1 := e4.cell k1
    have E4 := hx (E3.trans e4)
    clear CA E3 e4 i4 CAT
    go_wp2
    go_ret
    exact ⟨ret_bool (by simp_all), E4.out⟩
  ·have hb2 : (C2 == 0) = false := by simpa using hz
   by_cases h1 : C1 = 0
   ·subst h1
    clear HS7 HS8 hz
    have hg := HG.out
    have hw7 := HW7.out
    have ht7 := HT7.out
    have ht8 := HT8.out
    have hu7 := HU7.out
    have hu8 := HU8.out
    go_enter Tryz.func12, Tryz.ntmps12
    go_wp2_with fail
    refine hF.mono ?_
    rintro e w1 ⟨rfl, e1⟩
    rw [← HW0.out] at e1
    have r1 := r0.ext e1
    have k0 := r1.c0
    have k1 := r1.c1
    have k2 := r1.c2
    have E1 := e0.trans e1
    clear hF HW0 e0 e1 r0
    go_wp2_with fail
    refine (CK.out w1 E1).mono ?_
    rintro e w2 ⟨rfl, e2⟩
    replace k1 := e2.cell k1
    have E2 := E1.trans e2
    clear CK E1 e2 r1 k0 k2
    go_wp2_with fail
    refine (CL.out w2 E2).mono ?_
    rintro e w3 ⟨v3, rfl, i3, e3⟩
    obtain ⟨A6, c6, rfl, -, -, i4⟩ := i3.form
    replace k1 := e3.cell k1
    have E3 := E2.trans e3
    clear CL E2 e3 i3
    go_wp2_with fail
    refine (CA.out w3 E3).mono ?_
    rintro e w4 ⟨rfl, e4⟩
    replace k1 := e4.cell k1
    have E4 := hx (E3.trans e4)
    clear CA E3 e4 i4 CAT
    go_wp2
    go_ret
    exact ⟨ret_bool (by simp_all), E4.out⟩
   ·have hb1 : (C1 == 0) = false := by simpa using h1
    by_cases h3 : AE = 0
    ·have hs8 := HS8.out hz h1 h3
     subst h3
     obtain ⟨s1, s2, s3⟩ := hs8
     clear HS7 HS8 hz h1
     by_cases h18 : C2 = 18
     ·subst h18
      clear s3
      have hg := HG.out
      have hw7 := HW7.out
      have ht7 := HT7.out
      have ht8 := HT8.out
      have hu7 := HU7.out
      have hu8 := HU8.out
      go_enter Tryz.func12, Tryz.ntmps12
      go_wp2_with fail
      refine hF.mono ?_
      rintro e w1 ⟨rfl, e1⟩
      rw [← HW0.out] at e1
      have r1 := r0.ext e1
      have k0 := r1.c0
      have k1 := r1.c1
      have k2 := r1.c2
      have E1 := e0.trans e1
      clear hF HW0 e0 e1 r0
      go_wp2_with fail
      refine (CK.out w1 E1).mono ?_
      rintro e w2 ⟨rfl, e2⟩
      replace k1 := e2.cell k1
      have E2 := E1.trans e2
      clear CK E1 e2 r1 k0 k2
      go_wp2_with fail
      refine (CL.out w2 E2).mono ?_
      rintro e w3 ⟨v3, rfl, i3, e3⟩
      obtain ⟨A6, c6, rfl, -, -, i4⟩ := i3.form
      replace k1 := e3.cell k1
      have E3 := E2.trans e3
      clear CL E2 e3 i3
      go_wp2_with fail
      refine (CA.out w3 E3).mono ?_
      rintro e w4 ⟨rfl, e4⟩
      replace k1 := e4.cell k1
      have E4 := hx (E3.trans e4)
      clear CA E3 e4 i4 CAT
      go_wp2
      go_ret
      exact ⟨ret_bool (by simp_all), E4.out⟩
     ·have s4 := s3.resolve_left h18
      have hb18 : (C2 == 18) = false := by simpa using h18
      clear s3 h18
      have hg := HG.out
      have hw7 := HW7.out
      have ht7 := HT7.out
      have ht8 := HT8.out
      have hu7 := HU7.out
      have hu8 := HU8.out
      go_enter Tryz.func12, Tryz.ntmps12
      go_wp2_with fail
      refine hF.mono ?_
      rintro e w1 ⟨rfl, e1⟩
      rw [← HW0.out] at e1
      have r1 := r0.ext e1
      have k0 := r1.c0
      have k1 := r1.c1
      have k2 := r1.c2
      have E1 := e0.trans e1
      clear hF HW0 e0 e1 r0
      go_wp2_with fail
      refine (CK.out w1 E1).mono ?_
      rintro e w2 ⟨rfl, e2⟩
      replace k1 := e2.cell k1
      have E2 := E1.trans e2
      clear CK E1 e2 r1 k0 k2
      go_wp2_with fail
      refine (CL.out w2 E2).mono ?_
      rintro e w3 ⟨v3, rfl, i3, e3⟩
      obtain ⟨A6, c6, rfl, -, -, i4⟩ := i3.form
      replace k1 := e3.cell k1
      have E3 := E2.trans e3
      clear CL E2 e3 i3
      go_wp2_with fail
      refine (CA.out w3 E3).mono ?_
      rintro e w4 ⟨rfl, e4⟩
      replace k1 := e4.cell k1
      have E4 := hx (E3.trans e4)
      have HQ := hx (CAT.out C1 _ w4 (IsIns.ext i4 e4))
      clear CA E3 e4 i4 CAT
      go_wp2_with fail
      refine HQ.out.mono ?_
      rintro e w5 ⟨rfl, rfl⟩
      go_wp2
      go_ret
      exact ⟨ret_bool (by simp_all), E4.out⟩
    ·have hb3 : (AE != 0) = true := by simpa using h3
     have hs7 := HS7.out h1
     clear h1 h3 hz HS7 HS8
     have hg := HG.out
     have hw7 := HW7.out
     have ht7 := HT7.out
     have ht8 := HT8.out
     have hu7 := HU7.out
     have hu8 := HU8.out
     go_enter Tryz.func12, Tryz.ntmps12
     go_wp2_with fail
     refine hF.mono ?_
     rintro e w1 ⟨rfl, e1⟩
     rw [← HW0.out] at e1
     have r1 := r0.ext e1
     have k0 := r1.c0
     have k1 := r1.c1
     have k2 := r1.c2
     have E1 := e0.trans e1
     clear hF HW0 e0 e1 r0
     go_wp2_with fail
     refine (CK.out w1 E1).mono ?_
     rintro e w2 ⟨rfl, e2⟩
     replace k1 := e2.cell k1
     have E2 := E1.trans e2
     clear CK E1 e2 r1 k0 k2
     go_wp2_with fail
     refine (CL.out w2 E2).mono ?_
     rintro e w3 ⟨v3, rfl, i3, e3⟩
     obtain ⟨A6, c6, rfl, -, -, i4⟩ := i3.form
     replace k1 := e3.cell k1
     have E3 := E2.trans e3
     clear CL E2 e3 i3
     go_wp2_with fail
     refine (CA.out w3 E3).mono ?_
     rintro e w4 ⟨rfl, e4⟩
     replace k1 := e4.cell k1
     have E4 := hx (E3.trans e4)
     clear CA E3 e4 i4 CAT
     go_wp2
     go_ret
     exact ⟨ret_bool (by simp_all), E4.out⟩
end Go.Proofs.YtiaddncjghkajaaGreatDoor
