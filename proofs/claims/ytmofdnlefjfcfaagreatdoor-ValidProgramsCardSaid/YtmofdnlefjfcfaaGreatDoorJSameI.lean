/- The layer slot, the reference: Same. -/
import Derived.Test.YtmofdnlefjfcfaaGreatDoorJAllR
import Derived.Laws.StructEq
import Derived.Deep.QuietTactic
import Derived.BigQuiet
import Derived.Test.YtmofdnlefjfcfaaGreatDoorJLawO
import Derived.Test.YtmofdnlefjfcfaaGreatDoorJPaBig
set_option linter.unusedVariables false
set_option linter.unusedSimpArgs false
namespace Go.Proofs.YtmofdnlefjfcfaaGreatDoor
open Go.RowKit

set_option maxRecDepth 40000 in
theorem ins_neq (x y : Ins) (W : World) : (binOp .neq 53 x.v y.v).run Tryz.prog W = .ok (.bool (!decide (x = y))) W := by
 have hS : Tryz.prog.underlying 53 = some (.struct (Tryz.prog.fieldsOf 53)) := by kernel_rfl
 have hp : Tryz.prog.stoodInHeld 53 = false := by kernel_rfl
 have u2 := Tryz.underlying2
 have u3 := Tryz.underlying3
 have u4 := Tryz.underlying4
 obtain ⟨a1, a2, a3, a4, a5, a6⟩ := x
 obtain ⟨b1, b2, b3, b4, b5, b6⟩ := y
 unfold Ins.v
 rw [run_neq_struct, show (10000 : Nat) = 9999 + 1 from rfl, run_equalIn_agg W 9999 53 _ _ hS hp]
 simp only [Program.fieldsOf, Tryz.underlying53]
 go_simp
 by_cases h1 : a1 = b1 <;> by_cases h2 : a2 = b2 <;> by_cases h3 : a3 = b3 <;> by_cases h4 : a4 = b4 <;> by_cases h5 : a5 = b5 <;> by_cases h6 : a6 = b6 <;> simp [h1, h2, h3, h4, h5, h6]
set_option maxRecDepth 40000 in
set_option maxHeartbeats 4000000 in
theorem Same_eq (va vb : Value) (L : List Ins) (w : World) (ha : IsIns w va L) (hb : IsIns w vb L) (hL : L.length ≤ 1000000) :
  Calls Tryz.prog 17 #[va, vb] w fun e w' => e = .returned (.bool true) ∧ Ext w w' := by
 obtain ⟨A, c, rfl, hc, -, ha'⟩ := ha.form
 obtain ⟨B, d, rfl, hd, -, hb'⟩ := hb.form
 obtain ⟨m, hm⟩ : ∃ m, m = L.length := ⟨_, rfl⟩
 rw [← hm] at ha' hb' hc hd hL ha hb ⊢
 have HM := hx hm
 clear hm ha hb
 go_enter Tryz.func17, Tryz.ntmps17
 go_wp2
 go_loopw [5] (fun i wr => ∃ k : Nat, k ≤ m ∧ i = .int .i64 (k : Nat) ∧ Ext w wr) (fun i _ => m - (RowKit.intOf i).toNat)
 case atStart => exact ⟨0, by omega, rfl, Ext.refl _⟩
 case round =>
  obtain ⟨k, hk, rfl, he⟩ := hrel
  by_cases hlt : k < m
  ·obtain ⟨x, hx0⟩ : ∃ x, L[k]? = some x := ⟨_, List.getElem?_eq_getElem (by have := HM.out; omega)⟩
   obtain ⟨b1, o1, rfl, hE1⟩ := (IsIns.ext ha' he).get hx0
   obtain ⟨⟨k0, k1, k2, k3, k4, k5⟩, -⟩ := hE1
   obtain ⟨b2, o2, rfl, hE2⟩ := (IsIns.ext hb' he).get hx0
   obtain ⟨⟨l0, l1, l2, l3, l4, l5⟩, -⟩ := hE2
   have hq := fun W => ins_neq x x W
   simp only [decide_true, Bool.not_true] at hq
   have hkm : (k : Int) < (m : Int) := by omega
   have HE := hx he
   unfold Ins.v at hq
   obtain ⟨op, reg, x1, x2, x3, x4⟩ := x
   dsimp only at *
   clear he hx0 ha' hb'
   go_wp2_with fail
   go_quiet (fail)
   clear k0 k1 k2 k3 k4 k5 l0 l1 l2 l3 l4 l5 hq
   go_wp2
   go_roundw
   case rel => exact ⟨k + 1, by omega, by go_num, HE.out.drewN _⟩
   case measure => simp [RowKit.intOf]; omega
  ·obtain rfl : k = m := by omega
   go_wp2
   go_ret
   exact ⟨rfl, he⟩
end Go.Proofs.YtmofdnlefjfcfaaGreatDoor


set_option linter.unusedVariables false
set_option linter.unusedSimpArgs false
namespace Go.Proofs.YtmofdnlefjfcfaaGreatDoor
open Go.RowKit Go.Lib

set_option maxRecDepth 40000 in
set_option maxHeartbeats 8000000 in
theorem validPrograms_any (v : Value) (p : Pr) (w : World) (h : IsPr w v p) (hG : Glob w) (hN : NoneV w) (hO : OpsN w) (hWd : WidN w) :
  Calls Tryz.prog 4 #[v] w fun e w' => e = .returned (.bool true) ∧ Ext w w' := by
 obtain ⟨M, L⟩ := p
 obtain ⟨v1, v2, rfl, hd, hv⟩ := h
 dsimp only at hd hv
 obtain ⟨A1, c1, rfl, -, hdl, hd'⟩ := hd.form
 obtain ⟨A2, c2, rfl, -, hvl, hv'⟩ := hv.form
 obtain ⟨m1, hm1⟩ : ∃ m1, m1 = M.length := ⟨_, rfl⟩
 obtain ⟨m, hm⟩ : ∃ m, m = L.length := ⟨_, rfl⟩
 rw [← hm1] at hdl hd' ⊢
 rw [← hm] at hvl hv' ⊢
 obtain ⟨W0, hW0⟩ : ∃ W0, W0 = w.alloc (.cells #[.slice A1 m1 c1, .slice A2 m c2] 25) := ⟨_, rfl⟩
 have e0 : Ext w W0 := by rw [hW0]; exact Ext.new _ _
 have r0 : RowV W0 w.heap.size 25 [.slice A1 m1 c1, .slice A2 m c2] := by rw [hW0]; exact RowV.new _ _ _
 have hF := refFew_any A1 A2 m1 c1 m c2 M L W0 hm1 hdl hm hvl (IsStmts.ext hv' e0)
 have CA := hx (fun (W : World) (hW : Ext w W) => alive17_any W (hG.ext hW) (hN.ext hW) (hO.ext hW) (hWd.ext hW))
 rw [hW0] at hF
 have HF := hx hF
 have HW0 := hx hW0
 have q0 := r0.cell (i := 0) rfl
 have q1 := r0.cell (i := 1) rfl
 cases hf : fewP M L with
 | false =>
  rw [hf] at HF
  clear hf hW0 hd hv hd' hv' hG hN hO hWd hF hm hm1 hdl hvl
  go_enter Tryz.func4, Tryz.ntmps4
  go_wp2_with (first
   | (go_at_call 5; refine HF.out.mono ?_; rintro e w1 ⟨rfl, e1⟩; rw [← HW0.out] at e1)
   | (go_at_call 13; refine (CA.out _ (e0.trans e1)).mono ?_; rintro e w2 ⟨rfl, e2⟩))
  go_ret
  exact ⟨rfl, (e0.trans e1).trans e2⟩
 | true =>
  rw [hf] at HF
  obtain ⟨b1, b2, b3⟩ := fewP_bd hf
  obtain ⟨n1, hn1⟩ : ∃ n, n = (asmO M L).maps.length := ⟨_, rfl⟩
  obtain ⟨n2, hn2⟩ : ∃ n, n = (asmO M L).code.length := ⟨_, rfl⟩
  obtain ⟨n3, hn3⟩ : ∃ n, n = (asmO M L).rels.length := ⟨_, rfl⟩
  have CS := hx (fun (W : World) (hW : Ext w W) => (refAssemble_any A1 A2 m1 c1 m c2 M L W hm1 (by omega) hm (by omega) (IsDefs.ext hd' hW) (IsStmts.ext hv' hW) (by omega)).mono (R' := fun e w' => ∃ A1 c1 A2 c2 A3 c3, e = .returned (.tuple #[.agg #[.slice A1 n1 c1, .slice A2 n2 c2, .slice A3 n3 c3], .int .i64 (resE M L).1, .int .i64 (resE M L).2]) ∧ ObV w' A1 c1 A2 c2 A3 c3 n1 n2 n3 (asmO M L) ∧ Ext W w') fun e w' ⟨v', h1, h2, h3⟩ => by
   obtain ⟨A1, c1, A2, c2, A3, c3, rfl, h⟩ := isOb_form h2
   rw [← hn1, ← hn2, ← hn3] at h h1
   exact ⟨A1, c1, A2, c2, A3, c3, h1, h, h3⟩)
  have CM := hx (fun (W : World) (hW : Ext w W) => (asmAssemble_any A1 A2 m1 c1 m c2 M L W hm1 (by omega) hm (by omega) (IsDefs.ext hd' hW) (IsStmts.ext hv' hW) (by omega) (hG.ext hW) (hN.ext hW) (hO.ext hW) (hWd.ext hW)).mono (R' := fun e w' => ∃ A1 c1 A2 c2 A3 c3, e = .returned (.tuple #[.agg #[.slice A1 n1 c1, .slice A2 n2 c2, .slice A3 n3 c3], .int .i64 (resE M L).1, .int .i64 (resE M L).2]) ∧ ObV w' A1 c1 A2 c2 A3 c3 n1 n2 n3 (asmO M L) ∧ Ext W w') fun e w' ⟨v', h1, h2, h3⟩ => by
   obtain ⟨A1, c1, A2, c2, A3, c3, rfl, h⟩ := isOb_form h2
   rw [← hn1, ← hn2, ← hn3] at h h1
   exact ⟨A1, c1, A2, c2, A3, c3, h1, h, h3⟩)
  by_cases hz : (resE M L).2 = 0
  ·have hob := asm_obE hz
   obtain ⟨s1, s2, s3⟩ := asm_small (M := M) (L := L) b1 b2
   have hck := asm_chk17 (stmts_ok hv') (by omega) hz
   obtain ⟨-, hal⟩ := asm_all (stmts_ok hv') (by omega) hz
   have hcd : code17 (asmO M L) = resL L := by unfold code17; rw [hck, if_pos rfl, hal]
   have hro : resO M L = resL L := if_pos hz
   obtain ⟨k, hk⟩ : ∃ k, k = (resL L).length := ⟨_, rfl⟩
   have hkl : k ≤ 1000000 := by rw [hk, resL_length]; omega
   have CP := hx (fun (W : World) (hW : Ext w W) (v : Value) (ho : IsOb W v (asmO M L)) => (valid_Check_any v _ W ho (by omega) (by omega) (hG.ext hW) (hN.ext hW) (hO.ext hW) (hWd.ext hW)).mono (R' := fun e w' => e = .returned (.tuple #[.int .i64 0, .int .i64 0]) ∧ Ext W w') fun e w' ⟨h1, h2⟩ => ⟨by rw [h1, hck], h2⟩)
   have CQ := hx (fun (W : World) (hW : Ext w W) (v : Value) (ho : IsOb W v (asmO M L)) => (valid_Code_any v _ W ho (by omega) (by omega) (hG.ext hW) (hN.ext hW) (hO.ext hW) (hWd.ext hW)).mono (R' := fun e w' => ∃ A c, e = .returned (.tuple #[.slice A k c, .int .i64 0]) ∧ IsIns w' (.slice A k c) (resL L) ∧ Ext W w') fun e w' ⟨v', h1, h2, h3⟩ => by
    rw [hcd] at h2
    rw [hck] at h1
    obtain ⟨A, c, rfl, -, -, h2'⟩ := h2.form
    rw [← hk] at h1 h2'
    exact ⟨A, c, h1, h2', h3⟩)
   have CR := hx (fun (W : World) (hW : Ext w W) => (refResolve_any A1 A2 m1 c1 m c2 M L W hm1 (by omega) hm (by omega) (IsDefs.ext hd' hW) (IsStmts.ext hv' hW) (by omega)).mono (R' := fun e w' => ∃ A c, e = .returned (.tuple #[.slice A k c, .int .i64 (resE M L).1, .int .i64 (resE M L).2]) ∧ IsIns w' (.slice A k c) (resL L) ∧ Ext W w') fun e w' ⟨v', h1, h2, h3⟩ => by
    rw [hro] at h2
    obtain ⟨A, c, rfl, -, -, h2'⟩ := h2.form
    rw [← hk] at h1 h2'
    exact ⟨A, c, h1, h2', h3⟩)
   have CE := hx (fun (W : World) (va vb : Value) (ha : IsIns W va (resL L)) (hb : IsIns W vb (resL L)) => Same_eq va vb _ W ha hb (by omega))
   generalize resL L = RL at *
   generalize asmO M L = AO at *
   generalize hR : resE M L = RE at *
   obtain ⟨ra, re⟩ := RE
   dsimp only at hz CS CM CR
   subst hz
   clear hf hW0 hd hv hd' hv' hG hN hO hWd hF hm hm1 hdl hvl b1 b2 b3 hn1 hn2 hn3 hob s1 s2 s3 hck hal hcd hro hk hkl hR r0
   go_enter Tryz.func4, Tryz.ntmps4
   go_wp2_with fail
   refine HF.out.mono ?_
   rintro e w1 ⟨rfl, e1⟩
   rw [← HW0.out] at e1
   have E1 := e0.trans e1
   replace q0 := e1.cell q0
   replace q1 := e1.cell q1
   clear HF HW0 e0 e1
   go_wp2_with fail
   refine (CS.out w1 E1).mono ?_
   rintro e w2 ⟨B1, b1, B2, b2, B3, b3, rfl, i2, e2⟩
   have s2 := rowO_new w2 (.slice B1 n1 b1) (.slice B2 n2 b2) (.slice B3 n3 b3)
   have x2 := e2.trans (Ext.new w2 (.cells #[.slice B1 n1 b1, .slice B2 n2 b2, .slice B3 n3 b3] 31))
   replace i2 := IsOb.ext i2 (Ext.new w2 (.cells #[.slice B1 n1 b1, .slice B2 n2 b2, .slice B3 n3 b3] 31))
   have E2 := E1.trans x2
   replace q0 := x2.cell q0
   replace q1 := x2.cell q1
   clear CS E1 e2 x2
   go_wp2_with fail
   refine (CM.out _ E2).mono ?_
   rintro e w3 ⟨D1, d1, D2, d2, D3, d3, rfl, i3, e3⟩
   have s3 := rowO_new w3 (.slice D1 n1 d1) (.slice D2 n2 d2) (.slice D3 n3 d3)
   have f3 := Ext.new w3 (.cells #[.slice D1 n1 d1, .slice D2 n2 d2, .slice D3 n3 d3] 31)
   have x3 := e3.trans f3
   replace i3 := IsOb.ext i3 f3
   replace i2 := IsOb.ext i2 x3
   replace s2 := s2.ext x3
   have E3 := E2.trans x3
   have k0 := s3.c0
   have k1 := s3.c1
   have k2 := s3.c2
   replace q0 := x3.cell q0
   replace q1 := x3.cell q1
   clear CM E2 e3 f3 x3 i2 s2
   go_wp2_with fail
   refine (CP.out _ E3 _ i3).mono ?_
   rintro e w4 ⟨rfl, e4⟩
   replace i3 := IsOb.ext i3 e4
   replace k0 := e4.cell k0
   replace k1 := e4.cell k1
   replace k2 := e4.cell k2
   replace q0 := e4.cell q0
   replace q1 := e4.cell q1
   have E4 := E3.trans e4
   clear CP E3 e4 s3
   go_wp2_with fail
   refine (CQ.out _ E4 _ i3).mono ?_
   rintro e w5 ⟨F, f, rfl, i5, e5⟩
   replace q0 := e5.cell q0
   replace q1 := e5.cell q1
   have E5 := E4.trans e5
   clear CQ E4 e5 i3 k0 k1 k2
   go_wp2_with fail
   refine (CR.out _ E5).mono ?_
   rintro e w6 ⟨G, g, rfl, i6, e6⟩
   replace i5 := IsIns.ext i5 e6
   have E6 := E5.trans e6
   clear CR E5 e6 q0 q1
   go_wp2_with (first
    | (go_at_call 13; refine (CA.out _ E6).mono ?_; rintro e w7 ⟨rfl, e7⟩; have E7 := E6.trans e7; replace i5 := IsIns.ext i5 e7; replace i6 := IsIns.ext i6 e7; clear CA E6 e7)
    | (go_at_call 17; refine (CE.out w7 _ _ i5 i6).mono ?_; rintro e w8 ⟨rfl, e8⟩))
   go_ret
   exact ⟨ret_bool (by simp), E7.trans e8⟩
  ·generalize asmO M L = AO at *
   generalize hR : resE M L = RE at *
   obtain ⟨ra, re⟩ := RE
   dsimp only at hz CS CM
   have hz' : (re != 0) = true := by simpa using hz
   clear hf hW0 hd hv hd' hv' hG hN hO hWd hF hm hm1 hdl hvl b1 b2 b3 hn1 hn2 hn3 hR r0 hz CM
   go_enter Tryz.func4, Tryz.ntmps4
   go_wp2_with fail
   refine HF.out.mono ?_
   rintro e w1 ⟨rfl, e1⟩
   rw [← HW0.out] at e1
   have E1 := e0.trans e1
   replace q0 := e1.cell q0
   replace q1 := e1.cell q1
   clear HF HW0 e0 e1
   go_wp2_with fail
   refine (CS.out w1 E1).mono ?_
   rintro e w2 ⟨B1, b1, B2, b2, B3, b3, rfl, i2, e2⟩
   have x2 := e2.trans (Ext.new w2 (.cells #[.slice B1 n1 b1, .slice B2 n2 b2, .slice B3 n3 b3] 31))
   have E2 := E1.trans x2
   have CA2 := CA.out _ E2
   clear CS E1 e2 x2 i2 q0 q1 CA
   go_wp2_with (first
    | (go_at_call 13; refine CA2.mono ?_; rintro e w3 ⟨rfl, e3⟩))
   go_ret
   exact ⟨rfl, E2.trans e3⟩
end Go.Proofs.YtmofdnlefjfcfaaGreatDoor
