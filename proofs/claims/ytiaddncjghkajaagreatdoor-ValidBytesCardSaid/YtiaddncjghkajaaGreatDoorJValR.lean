/- The layer valid, the reference: Bytes. -/
import Derived.Test.YtiaddncjghkajaaGreatDoorJPaBig
import Derived.Test.YtiaddncjghkajaaGreatDoorJChkR
import Derived.Test.YtiaddncjghkajaaGreatDoorJRefPar
set_option linter.unusedVariables false
set_option linter.unusedSimpArgs false
namespace Go.Proofs.YtiaddncjghkajaaGreatDoor
open Go.RowKit Go.Lib

set_option maxRecDepth 40000 in
set_option maxHeartbeats 4000000 in
theorem ref17Bytes_any (v : Value) (b : List Int) (w : World) (hv : IsB w v b) (hb : b.length ≤ 1000000) :
  Calls Tryz.prog 33 #[v] w fun e w' => e = .returned (.tuple #[.int .i64 (byt17 b).1, .int .i64 (byt17 b).2]) ∧ Ext w w' := by
 obtain ⟨A, c, rfl, -, -, hv'⟩ := hv.form
 have hbig := pa_big b
 have HP := hx (ref16_Parse_any _ b w hv' hb)
 have HCK := hx fun (W : World) (v : Value) (ho : IsOb W v (paOut b)) => ref17Check_any v (paOut b) W ho (by omega) (by omega)
 have HBY := hx (show byt17 b = if paErr b = 0 then chk17 (paOut b) else (0, paErr b) from rfl)
 have hpe : (paErr b = 0 ∧ paB b = true) ∨ (paErr b = 19 ∧ paB b = false) := by
  by_cases hp : paOk b
  ·exact .inl ⟨if_pos hp, decide_eq_true hp⟩
  ·exact .inr ⟨if_neg hp, (no_pa hp).1⟩
 generalize byt17 b = BY at *
 generalize paErr b = PE at *
 generalize paOut b = O at *
 generalize paB b = PB at *
 clear hbig hv hv'
 rcases hpe with ⟨rfl, rfl⟩ | ⟨rfl, rfl⟩
 ·have HBE := hx (HBY.out.trans (if_pos rfl))
  clear HBY
  go_enter Tryz.func33, Tryz.ntmps33
  go_wp2_with fail
  refine HP.out.mono ?_
  rintro e w1 ⟨v1, rfl, i1, e1⟩
  obtain ⟨A1, c1, A2, c2, A3, c3, rfl, i1'⟩ := isOb_form i1
  have i2 := i1'.ext (Ext.new w1 (.cells #[.slice A1 O.maps.length c1, .slice A2 O.code.length c2, .slice A3 O.rels.length c3] 26))
  have x2 := e1.trans (Ext.new w1 (.cells #[.slice A1 O.maps.length c1, .slice A2 O.code.length c2, .slice A3 O.rels.length c3] 26))
  have HQ := hx (HCK.out _ _ i2)
  have X2 := hx x2
  clear i1 i1' i2 x2 HCK
  generalize O.maps.length = m1 at *
  generalize O.code.length = m2 at *
  generalize O.rels.length = m3 at *
  go_wp2_with fail
  refine HQ.out.mono ?_
  rintro e w2 ⟨rfl, e2⟩
  go_wp2
  go_ret2
  exact ⟨by rw [HBE.out]; rfl, X2.out.trans e2⟩
 ·have HBE := hx (HBY.out.trans (if_neg (by decide)))
  clear HBY HCK
  go_enter Tryz.func33, Tryz.ntmps33
  go_wp2_with fail
  refine HP.out.mono ?_
  rintro e w1 ⟨v1, rfl, i1, e1⟩
  obtain ⟨A1, c1, A2, c2, A3, c3, rfl, i1'⟩ := isOb_form i1
  clear i1 i1'
  generalize O.maps.length = m1 at *
  generalize O.code.length = m2 at *
  generalize O.rels.length = m3 at *
  go_wp2
  go_ret2
  exact ⟨by rw [HBE.out]; rfl, e1.trans (Ext.new _ _)⟩
end Go.Proofs.YtiaddncjghkajaaGreatDoor


set_option linter.unusedVariables false
set_option linter.unusedSimpArgs false
namespace Go.Proofs.YtiaddncjghkajaaGreatDoor
open Go.RowKit Go.Lib

set_option maxRecDepth 40000 in
set_option maxHeartbeats 8000000 in
theorem validBytes_any (v : Value) (b : List Int) (w : World) (h : IsB w v b) (hG : Glob w) (hN : NoneV w) (hO : OpsN w) (hWd : WidN w) :
  Calls Tryz.prog 9 #[v] w fun e w' => e = .returned (.bool true) ∧ Ext w w' := by
 obtain ⟨A, c, rfl, -, hbl, hv⟩ := h.form
 have CA := hx fun (W : World) (hW : Ext w W) => alive17_any W (hG.ext hW) (hN.ext hW) (hO.ext hW) (hWd.ext hW)
 obtain ⟨n, hn⟩ : ∃ n, n = b.length := ⟨_, rfl⟩
 rw [← hn] at hbl hv ⊢
 by_cases hl : n ≤ 6000
 ·have d1 : decide ((n : Int) > 6000) = false := decide_eq_false (by omega)
  have CB := hx fun (W : World) (hW : Ext w W) => valid_Bytes_any _ b W (IsB.ext hv hW) (by omega) (hG.ext hW) (hN.ext hW) (hO.ext hW) (hWd.ext hW)
  have CR := hx fun (W : World) (hW : Ext w W) => ref17Bytes_any _ b W (IsB.ext hv hW) (by omega)
  generalize (byt17 b).1 = C1 at *
  generalize (byt17 b).2 = C2 at *
  clear hbl hv hG hN hO hWd hn hl h
  go_enter Tryz.func9, Tryz.ntmps9
  go_wp2_with fail
  refine (CB.out w (Ext.refl _)).mono ?_
  rintro e w2 ⟨rfl, e2⟩
  go_wp2_with fail
  refine (CR.out w2 e2).mono ?_
  rintro e w3 ⟨rfl, e3⟩
  have E3 := e2.trans e3
  clear e2 e3 CB CR
  go_wp2_with fail
  refine (CA.out w3 E3).mono ?_
  rintro e w4 ⟨rfl, e4⟩
  go_wp2
  go_ret
  exact ⟨ret_bool (by simp), E3.trans e4⟩
 ·have d1 : decide ((n : Int) > 6000) = true := decide_eq_true (by omega)
  clear hbl hv hG hN hO hWd hn hl h
  go_enter Tryz.func9, Tryz.ntmps9
  go_wp2_with fail
  refine (CA.out w (Ext.refl _)).mono ?_
  rintro e w4 ⟨rfl, e4⟩
  go_wp2
  go_ret
  exact ⟨rfl, e4⟩
end Go.Proofs.YtiaddncjghkajaaGreatDoor
