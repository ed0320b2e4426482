/- The statement ValidChecks, walked. -/
import Derived.Test.YtiaddncjghkajaaGreatDoorJPaBig
import Derived.Test.YtiaddncjghkajaaGreatDoorJJoinR
import Derived.Test.YtiaddncjghkajaaGreatDoorJChkR
set_option linter.unusedVariables false
set_option linter.unusedSimpArgs false
namespace Go.Proofs.YtiaddncjghkajaaGreatDoor
open Go.RowKit Go.Lib

set_option maxRecDepth 40000 in
set_option maxHeartbeats 8000000 in
theorem validChecks_any (v : Value) (o : Ob) (w : World) (h : IsOb w v o) (hG : Glob w) (hN : NoneV w) (hO : OpsN w) (hWd : WidN w) :
  Calls Tryz.prog 8 #[v] w fun e w' => e = .returned (.bool true) ∧ Ext w w' := by
 obtain ⟨A1, c1, A2, c2, A3, c3, rfl, h'⟩ := isOb_form h
 obtain ⟨W0, hW0⟩ : ∃ W0, W0 = w.alloc (.cells #[.slice A1 o.maps.length c1, .slice A2 o.code.length c2, .slice A3 o.rels.length c3] 26) := ⟨_, rfl⟩
 have e0 : Ext w W0 := by rw [hW0]; exact Ext.new _ _
 have r0 : RowO W0 w.heap.size (.slice A1 o.maps.length c1) (.slice A2 o.code.length c2) (.slice A3 o.rels.length c3) := by rw [hW0]; exact rowO_new _ _ _ _
 have hF := Few_any _ o W0 (h'.ext e0)
 have CA := hx fun (W : World) (hW : Ext w W) => alive17_any W (hG.ext hW) (hN.ext hW) (hO.ext hW) (hWd.ext hW)
 rw [hW0] at hF
 have HW0 := hx hW0
 rcases fewI_val o.maps.length o.code.length o.rels.length with hf | hf
 ·rw [hf] at hF
  clear hf hW0 h h' hG hN hO hWd
  go_enter Tryz.func8, Tryz.ntmps8
  go_wp2_with (first
   | (go_at_call 13; refine hF.mono ?_; rintro e w1 ⟨rfl, e1⟩; rw [← HW0.out] at e1)
   | (go_at_call 29; refine (CA.out _ (e0.trans e1)).mono ?_; rintro e w2 ⟨rfl, e2⟩))
  go_ret
  exact ⟨rfl, (e0.trans e1).trans e2⟩
 ·have hb := fewI_one (n1 := o.maps.length) (n2 := o.code.length) (n3 := o.rels.length) (by rw [hf]; decide)
  obtain ⟨hb2, hb1, hb3⟩ := hb
  rw [hf] at hF
  have CK := hx fun (W : World) (hW : Ext w W) => valid_Check_any _ o W (h'.ext hW) (by omega) (by omega) (hG.ext hW) (hN.ext hW) (hO.ext hW) (hWd.ext hW)
  have CR := hx fun (W : World) (hW : Ext w W) => ref17Check_any _ o W (h'.ext hW) (by omega) (by omega)
  generalize (chk17 o).1 = C1 at *
  generalize (chk17 o).2 = C2 at *
  clear hf hb1 hb2 hb3 hW0 h h' hG hN hO hWd
  generalize o.maps.length = nm at *
  generalize o.rels.length = nr at *
  generalize o.code.length = nc at *
  go_enter Tryz.func8, Tryz.ntmps8
  go_wp2_with fail
  refine hF.mono ?_
  rintro e w1 ⟨rfl, e1⟩
  rw [← HW0.out] at e1
  have r1 := r0.ext e1
  have k0 := r1.c0
  have k1 := r1.c1
  have k2 := r1.c2
  have E1 := e0.trans e1
  clear hF HW0 e0 e1 r0
  go_wp2_with fail
  refine (CK.out w1 E1).mono ?_
  rintro e w2 ⟨rfl, e2⟩
  replace k0 := e2.cell k0
  replace k1 := e2.cell k1
  replace k2 := e2.cell k2
  have E2 := E1.trans e2
  clear CK E1 e2 r1
  go_wp2_with fail
  refine (CR.out w2 E2).mono ?_
  rintro e w3 ⟨rfl, e3⟩
  have E3 := E2.trans e3
  clear CR E2 e3 k0 k1 k2
  go_wp2_with fail
  refine (CA.out w3 E3).mono ?_
  rintro e w4 ⟨rfl, e4⟩
  go_wp2
  go_ret
  exact ⟨ret_bool (by simp), E3.trans e4⟩
end Go.Proofs.YtiaddncjghkajaaGreatDoor
