/- The layer slot, the reference: Same. -/
import Derived.Test.YtiaddncjghkajaaGreatDoorJAllR
import Derived.Laws.StructEq
import Derived.Deep.QuietTactic
import Derived.BigQuiet
import Derived.Test.YtiaddncjghkajaaGreatDoorJPaBig
import Derived.Test.YtiaddncjghkajaaGreatDoorJJoinR
import Derived.Test.YtiaddncjghkajaaGreatDoorJChkR
set_option linter.unusedVariables false
set_option linter.unusedSimpArgs false
namespace Go.Proofs.YtiaddncjghkajaaGreatDoor
open Go.RowKit

set_option maxRecDepth 40000 in
theorem ins_neq (x y : Ins) (W : World) : (binOp .neq 69 x.v y.v).run Tryz.prog W = .ok (.bool (!decide (x = y))) W := by
 have hS : Tryz.prog.underlying 69 = some (.struct (Tryz.prog.fieldsOf 69)) := by kernel_rfl
 have hp : Tryz.prog.stoodInHeld 69 = false := by kernel_rfl
 have u2 := Tryz.underlying2
 have u3 := Tryz.underlying3
 have u4 := Tryz.underlying4
 obtain ⟨a1, a2, a3, a4, a5, a6⟩ := x
 obtain ⟨b1, b2, b3, b4, b5, b6⟩ := y
 unfold Ins.v
 rw [run_neq_struct, show (10000 : Nat) = 9999 + 1 from rfl, run_equalIn_agg W 9999 69 _ _ hS hp]
 simp only [Program.fieldsOf, Tryz.underlying69]
 go_simp
 by_cases h1 : a1 = b1 <;> by_cases h2 : a2 = b2 <;> by_cases h3 : a3 = b3 <;> by_cases h4 : a4 = b4 <;> by_cases h5 : a5 = b5 <;> by_cases h6 : a6 = b6 <;> simp [h1, h2, h3, h4, h5, h6]
set_option maxRecDepth 40000 in
set_option maxHeartbeats 4000000 in
theorem Same_eq (va vb : Value) (L : List Ins) (w : World) (ha : IsIns w va L) (hb : IsIns w vb L) (hL : L.length ≤ 1000000) :
  Calls Tryz.prog 36 #[va, vb] w fun e w' => e = .returned (.bool true) ∧ Ext w w' := by
 obtain ⟨A, c, rfl, hc, -, ha'⟩ := ha.form
 obtain ⟨B, d, rfl, hd, -, hb'⟩ := hb.form
 obtain ⟨m, hm⟩ : ∃ m, m = L.length := ⟨_, rfl⟩
 rw [← hm] at ha' hb' hc hd hL ha hb ⊢
 have HM := hx hm
 clear hm ha hb
 go_enter Tryz.func36, Tryz.ntmps36
 go_wp2
 go_loopw [5] (fun i wr => ∃ k : Nat, k ≤ m ∧ i = .int .i64 (k : Nat) ∧ Ext w wr) (fun i _ => m - (RowKit.intOf i).toNat)
 case atStart => exact ⟨0, by omega, rfl, Ext.refl _⟩
 case round =>
  obtain ⟨k, hk, rfl, he⟩ := hrel
  by_cases hlt : k < m
  ·obtain ⟨x, hx0⟩ : ∃ x, L[k]? = some x := ⟨_, List.getElem?_eq_getElem (by have := HM.out; omega)⟩
   obtain ⟨b1, o1, rfl, hE1⟩ := (IsIns.ext ha' he).get hx0
   obtain ⟨⟨k0, k1, k2, k3, k4, k5⟩, -⟩ := hE1
   obtain ⟨b2, o2, rfl, hE2⟩ := (IsIns.ext hb' he).get hx0
   obtain ⟨⟨l0, l1, l2, l3, l4, l5⟩, -⟩ := hE2
   have hq := fun W => ins_neq x x W
   simp only [decide_true, Bool.not_true] at hq
   have hkm : (k : Int) < (m : Int) := by omega
   have HE := hx he
   unfold Ins.v at hq
   obtain ⟨op, reg, x1, x2, x3, x4⟩ := x
   dsimp only at *
   clear he hx0 ha' hb'
   go_wp2_with fail
   go_quiet (fail)
   clear k0 k1 k2 k3 k4 k5 l0 l1 l2 l3 l4 l5 hq
   go_wp2
   go_roundw
   case rel => exact ⟨k + 1, by omega, by go_num, HE.out.drewN _⟩
   case measure => simp [RowKit.intOf]; omega
  ·obtain rfl : k = m := by omega
   go_wp2
   go_ret
   exact ⟨rfl, he⟩
end Go.Proofs.YtiaddncjghkajaaGreatDoor


set_option linter.unusedVariables false
set_option linter.unusedSimpArgs false
namespace Go.Proofs.YtiaddncjghkajaaGreatDoor
open Go.RowKit Go.Lib

set_option maxRecDepth 40000 in
set_option maxHeartbeats 8000000 in
theorem validCode_any (v : Value) (o : Ob) (w : World) (h : IsOb w v o) (hG : Glob w) (hN : NoneV w) (hO : OpsN w) (hWd : WidN w) :
  Calls Tryz.prog 10 #[v] w fun e w' => e = .returned (.bool true) ∧ Ext w w' := by
 obtain ⟨A1, c1, A2, c2, A3, c3, rfl, h'⟩ := isOb_form h
 obtain ⟨W0, hW0⟩ : ∃ W0, W0 = w.alloc (.cells #[.slice A1 o.maps.length c1, .slice A2 o.code.length c2, .slice A3 o.rels.length c3] 26) := ⟨_, rfl⟩
 have e0 : Ext w W0 := by rw [hW0]; exact Ext.new _ _
 have r0 : RowO W0 w.heap.size (.slice A1 o.maps.length c1) (.slice A2 o.code.length c2) (.slice A3 o.rels.length c3) := by rw [hW0]; exact rowO_new _ _ _ _
 have hF := Few_any _ o W0 (h'.ext e0)
 have CA := hx fun (W : World) (hW : Ext w W) => alive17_any W (hG.ext hW) (hN.ext hW) (hO.ext hW) (hWd.ext hW)
 rw [hW0] at hF
 have HW0 := hx hW0
 rcases fewI_val o.maps.length o.code.length o.rels.length with hf | hf
 ·rw [hf] at hF
  clear hf hW0 h h' hG hN hO hWd
  go_enter Tryz.func10, Tryz.ntmps10
  go_wp2_with (first
   | (go_at_call 13; refine hF.mono ?_; rintro e w1 ⟨rfl, e1⟩; rw [← HW0.out] at e1)
   | (go_at_call 29; refine (CA.out _ (e0.trans e1)).mono ?_; rintro e w2 ⟨rfl, e2⟩))
  go_ret
  exact ⟨rfl, (e0.trans e1).trans e2⟩
 ·have hb := fewI_one (n1 := o.maps.length) (n2 := o.code.length) (n3 := o.rels.length) (by rw [hf]; decide)
  obtain ⟨hb2, hb1, hb3⟩ := hb
  rw [hf] at hF
  have CK := hx fun (W : World) (hW : Ext w W) => valid_Code_any _ o W (h'.ext hW) (by omega) (by omega) (hG.ext hW) (hN.ext hW) (hO.ext hW) (hWd.ext hW)
  have CR := hx fun (W : World) (hW : Ext w W) => ref17Check_any _ o W (h'.ext hW) (by omega) (by omega)
  have hbb : IsB w (.slice A2 o.code.length c2) o.code := by
   obtain ⟨_, _, _, h1, _, h2, h3⟩ := h'
   injection h1 with h1
   simp only [Array.mk.injEq, List.cons.injEq, and_true] at h1
   obtain ⟨-, rfl, rfl⟩ := h1
   exact h2
  have CL := hx fun (W : World) (hW : Ext w W) => refAll_any _ o.code W (IsB.ext hbb hW) (by omega)
  have HCD := hx (show code17 o = if (chk17 o).2 = 0 then allI o.code else [] from rfl)
  have hll : (allI o.code).length ≤ 1000000 := by have := allI_len o.code; omega
  have HLL := hx hll
  have hae : (chk17 o).2 = 0 → allE o.code = 0 := fun h0 => by
   by_cases h1 : obE o = 0
   ·by_cases h2 : allE o.code = 0
    ·exact h2
    ·rw [chk17_all h1 h2] at h0; exact absurd h0 h2
   ·rw [chk17_ob h1] at h0; exact absurd h0 h1
  have HAE := hx hae
  clear hae hll hbb
  generalize code17 o = CD at *
  generalize allI o.code = L at *
  generalize allE o.code = AE at *
  generalize allAt o.code = AT at *
  generalize (chk17 o).1 = C1 at *
  generalize (chk17 o).2 = C2 at *
  clear hf hb1 hb2 hb3 hW0 h h' hG hN hO hWd
  generalize o.maps.length = nm at *
  generalize o.rels.length = nr at *
  generalize o.code.length = nc at *
  by_cases hz : C2 = 0
  ·subst hz
   have HCE := hx (HCD.out.trans (if_pos rfl))
   have hae0 := HAE.out rfl
   clear HCD HAE
   go_enter Tryz.func10, Tryz.ntmps10
   go_wp2_with fail
   refine hF.mono ?_
   rintro e w1 ⟨rfl, e1⟩
   rw [← HW0.out] at e1
   have r1 := r0.ext e1
   have k0 := r1.c0
   have k1 := r1.c1
   have k2 := r1.c2
   have E1 := e0.trans e1
   clear hF HW0 e0 e1 r0
   go_wp2_with fail
   refine (CK.out w1 E1).mono ?_
   rintro e w2 ⟨v2, rfl, i2, e2⟩
   rw [HCE.out] at i2
   obtain ⟨A4, c4, rfl, -, -, i4⟩ := i2.form
   replace k0 := e2.cell k0
   replace k1 := e2.cell k1
   replace k2 := e2.cell k2
   have E2 := E1.trans e2
   clear CK E1 e2 r1 i2
   go_wp2_with fail
   refine (CR.out w2 E2).mono ?_
   rintro e w3 ⟨rfl, e3⟩
   have E3 := E2.trans e3
   replace k1 := e3.cell k1
   have i5 := IsIns.ext i4 e3
   clear CR E2 e3 k0 k2 i4
   go_wp2_with fail
   refine (CL.out w3 E3).mono ?_
   rintro e w4 ⟨v4, rfl, i6, e4⟩
   rw [hae0] at *
   have i7 := IsIns.ext i5 e4
   obtain ⟨A6, c6, rfl, -, -, i8⟩ := i6.form
   have E4 := E3.trans e4
   clear CL E3 e4 k1 i5 i6
   go_wp2_with fail
   refine (CA.out w4 E4).mono ?_
   rintro e w5 ⟨rfl, e5⟩
   have HS := hx (Same_eq _ _ L w5 (IsIns.ext i7 e5) (IsIns.ext i8 e5) HLL.out)
   have E5 := E4.trans e5
   clear i7 i8 e5 E4
   go_wp2_with fail
   refine HS.out.mono ?_
   rintro e w6 ⟨rfl, e6⟩
   go_wp2
   go_ret
   exact ⟨rfl, E5.trans e6⟩
  ·have hz' : (C2 != 0) = true := by simpa using hz
   have HCE := hx (HCD.out.trans (if_neg hz))
   clear hz HCD HAE CL HLL
   go_enter Tryz.func10, Tryz.ntmps10
   go_wp2_with fail
   refine hF.mono ?_
   rintro e w1 ⟨rfl, e1⟩
   rw [← HW0.out] at e1
   have r1 := r0.ext e1
   have k0 := r1.c0
   have k1 := r1.c1
   have k2 := r1.c2
   have E1 := e0.trans e1
   clear hF HW0 e0 e1 r0
   go_wp2_with fail
   refine (CK.out w1 E1).mono ?_
   rintro e w2 ⟨v2, rfl, i2, e2⟩
   rw [HCE.out] at i2
   obtain ⟨A4, c4, rfl, -, -, i4⟩ := i2.form
   replace k0 := e2.cell k0
   replace k1 := e2.cell k1
   replace k2 := e2.cell k2
   have E2 := E1.trans e2
   clear CK E1 e2 r1 i2
   go_wp2_with fail
   refine (CR.out w2 E2).mono ?_
   rintro e w3 ⟨rfl, e3⟩
   have E3 := E2.trans e3
   clear CR E2 e3 k0 k1 k2 i4
   go_wp2_with fail
   refine (CA.out w3 E3).mono ?_
   rintro e w4 ⟨rfl, e4⟩
   go_wp2
   go_ret
   exact ⟨ret_bool (by simp), E3.trans e4⟩
end Go.Proofs.YtiaddncjghkajaaGreatDoor
