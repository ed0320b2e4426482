/- The layer asm: Assemble. -/
import Derived.Test.YtmofdnlefjfcfaaGreatDoorJJoinR
import Derived.Test.YtmofdnlefjfcfaaGreatDoorJARes
import Derived.Test.YtmofdnlefjfcfaaGreatDoorJOPar
import Derived.Test.YtmofdnlefjfcfaaGreatDoorJDec
import Derived.Deep.RegionWith
import Derived.Deep.RegionHeld3
import Derived.Laws.ResultCell
import Derived.Test.YtmofdnlefjfcfaaGreatDoorJResR
import Derived.Test.YtmofdnlefjfcfaaGreatDoorJRChk
import Derived.Test.YtmofdnlefjfcfaaGreatDoorJRLab
import Derived.Test.YtmofdnlefjfcfaaGreatDoorJObj
import Derived.Test.YtmofdnlefjfcfaaGreatDoorJRowsI
import Derived.Deep.QuietTactic
import Derived.BigQuiet
set_option linter.unusedVariables false
set_option linter.unusedSimpArgs false
namespace Go.Proofs.YtmofdnlefjfcfaaGreatDoor
open Go.RowKit Go.Lib

set_option maxRecDepth 40000 in
set_option maxHeartbeats 8000000 in
theorem asmAssemble_any (A1 A2 : Option Addr) (m1 c1 m c2 : Nat) (M : List Def) (L : List Stmt) (w : World) (hm1 : m1 = M.length) (hm1l : m1 ≤ 100000) (hm : m = L.length) (hml : m ≤ 100000) (hd : IsDefs w (.slice A1 m1 c1) M) (hv : IsStmts w (.slice A2 m c2) L) (hfl : (flat L).length ≤ 1000000) (hG : Glob w) (hN : NoneV w) (hO : OpsN w) (hWd : WidN w) :
  Calls Tryz.prog 8 #[.agg #[.slice A1 m1 c1, .slice A2 m c2]] w fun e w' => ∃ v', e = .returned (.tuple #[v', .int .i64 (resE M L).1, .int .i64 (resE M L).2]) ∧ IsOb w' v' (asmO M L) ∧ Ext w w' := by
 obtain ⟨W0, hW0⟩ : ∃ W0, W0 = (w.alloc (.cells #[.slice A1 m1 c1, .slice A2 m c2] 25)).alloc (.cells #[.slice none 0 0, .slice none 0 0, .slice none 0 0] 31) := ⟨_, rfl⟩
 have e0 : Ext w W0 := by rw [hW0]; exact (Ext.new w _).alloc _
 have rP : RowV W0 w.heap.size 25 [.slice A1 m1 c1, .slice A2 m c2] := by
  rw [hW0]
  exact (Ext.new _ _).obj (RowV.new w [.slice A1 m1 c1, .slice A2 m c2] 25)
 obtain ⟨Wp, hWp⟩ : ∃ Wp, Wp = w.alloc (.cells #[.slice A1 m1 c1, .slice A2 m c2] 25) := ⟨_, rfl⟩
 have HPS := hx (show Wp.heap.size ≤ w.heap.size + 1 by rw [hWp, World.size_alloc]; exact Nat.le_refl _)
 have hp0 : RowV Wp w.heap.size 25 [.slice A1 m1 c1, .slice A2 m c2] := by rw [hWp]; exact RowV.new _ _ _
 have hpW : Ext Wp W0 := by rw [hW0, hWp]; exact Ext.new _ _
 have HPW := hx hpW
 have L5 := hx fun (W : World) (h : Ext Wp W) => And.intro ((hp0.ext h).cell (i := 0) rfl) ((hp0.ext h).cell (i := 1) rfl)
 have rO : RowV W0 (w.heap.size + 1) 31 [.slice none 0 0, .slice none 0 0, .slice none 0 0] := by
  rw [hW0]
  have h := RowV.new (w.alloc (.cells #[.slice A1 m1 c1, .slice A2 m c2] 25)) [.slice none 0 0, .slice none 0 0, .slice none 0 0] 31
  rw [World.size_alloc] at h
  exact h
 have hd0 := IsDefs.ext hd e0
 have hv0 := IsStmts.ext hv e0
 have hCR := asmResolve_any A1 A2 m1 c1 m c2 M L W0 hm1 hm1l hm hml hd0 hv0 hfl (hG.ext e0) (hN.ext e0) (hO.ext e0) (hWd.ext e0)
 have HRF := hx fun (W : World) (h : Ext W0 W) => layRefs_any A1 A2 m1 c1 m c2 M L W hm1 (by omega) hm (by omega) (IsDefs.ext hd0 h) (IsStmts.ext hv0 h) (hO.ext (e0.trans h))
 have HCL := hx fun (W : World) (h : Ext W0 W) => cloneD_any (.slice A1 m1 c1) M W (IsDefs.ext hd0 h) (by omega)
 have HOK := hx (defs_ok hd)
 have hlr : (resL L).length = m := by unfold resL; rw [List.length_map, List.length_range, hm]
 have HJN := hx fun (W : World) (v : Value) (h : (resE M L).2 = 0) (hi : IsIns W v (resL L)) (hW : Ext W0 W) => slotJoin_any v (resL L) W hi (by rw [hlr]; omega) (resL_insE h) (hO.ext (e0.trans hW)) (hWd.ext (e0.trans hW))
 have HRO := hx (show resO M L = if (resE M L).2 = 0 then resL L else [] from rfl)
 have HAO := hx (show asmO M L = if (resE M L).2 = 0 then ⟨M, (resL L).flatMap encX9, refsOf M L m⟩ else ⟨[], [], []⟩ by rw [hm]; rfl)
 have HBY := hx (encs9_byt (resL L))
 have HBL := hx (show ((resL L).flatMap encX9).length ≤ 281474976710656 by have := encs9_length (resL L); omega)
 have HML := hx (show M.length ≤ 281474976710656 by omega)
 have HZ := hx (show (resE M L).2 = 0 → (resE M L).1 = 0 from fun h => by rw [resE_z h])
 rw [hW0] at hCR
 have HCR := hx hCR
 have HW0 := hx hW0
 have E0 := hx e0
 have q0 := rP.cell (i := 0) rfl
 have q1 := rP.cell (i := 1) rfl
 have RO' := hx rO
 clear hWp hp0 hpW hd hv hfl hd0 hv0 rP rO e0 hm1 hW0 hm hlr hCR hG hN hO hWd
 generalize resE M L = RE at *
 generalize resO M L = RO at *
 generalize asmO M L = AO at *
 generalize refsOf M L m = RS at *
 generalize (resL L).flatMap encX9 = CD at *
 obtain ⟨ra, re⟩ := RE
 dsimp only at *
 go_enter Tryz.func8, Tryz.ntmps8
 go_wp2_with fail
 refine HCR.out.mono ?_
 rintro e w1 ⟨v1, rfl, i1, e1⟩
 rw [← HW0.out] at e1
 have q0' := e1.cell q0
 have q1' := e1.cell q1
 have rO1 := RO'.out.ext e1
 have r0 := rO1.cell (i := 0) rfl
 have r1 := rO1.cell (i := 1) rfl
 have r2 := rO1.cell (i := 2) rfl
 have f0 := rO1.frozen 0
 have f1 := rO1.frozen 1
 have f2 := rO1.frozen 2
 have RO1 := hx rO1
 have X1 := hx (E0.out.trans e1)
 have E1 := hx e1
 clear q0 q1 HCR
 by_cases hz : re = 0
 ·subst hz
  have hra : ra = 0 := HZ.out rfl
  subst hra
  have HO := hx (show RO = resL L from HRO.out.trans (if_pos rfl))
  have HA := hx (show AO = ⟨M, CD, RS⟩ from HAO.out.trans (if_pos rfl))
  rw [HO.out] at i1
  have HJ := hx (HJN.out w1 v1 rfl i1 e1)
  have HR := hx fun (W : World) (h : Ext w1 W) => HRF.out W (e1.trans h)
  have HC := hx fun (W : World) (h : Ext w1 W) => HCL.out W (e1.trans h)
  obtain ⟨B1, b1, rfl, -, -, -⟩ := i1.form
  clear HRO HAO HJN HRF HCL e1 i1 HZ
  go_wp2_with fail
  refine HJ.out.mono ?_
  rintro e w2 ⟨v2, rfl, ob, e2⟩
  have ib := OwnB.read ob HBY.out HBL.out
  obtain ⟨B2, b2, rfl, -, -, ib'⟩ := ib.form
  have RO2 := hx (RO1.out.ext e2)
  have q2' := e2.cell q0'
  have q3' := e2.cell q1'
  have HR2 := hx fun (W : World) (h : Ext w2 W) => HR.out W (e2.trans h)
  have HC2 := hx fun (W : World) (h : Ext w2 W) => HC.out W (e2.trans h)
  have X2 := hx (X1.out.trans e2)
  have XP := hx ((HPW.out.trans E1.out).trans e2)
  have HIB := hx ib'
  clear HJ HR HC e2 ob ib ib' q0' q1' q2' q3' r0 r1 r2 f0 f1 f2 rO1
  generalize CD.length = nb at *
  go_upto_region 7 with fail
  have hr0 : Ext w2 w2 := Ext.refl w2
  have hd2 : Ext w2 w2.drew := (Ext.refl w2).drew
  go_cut [2, 3, 4] (fun s2 s3 s4 wx => s2 = .pointer (some ⟨w.heap.size + 1, 0, none⟩) ∧ s3 = .int .i64 0 ∧ s4 = .int .i64 0 ∧ ∃ vd vr, RowV wx (w.heap.size + 1) 31 [vd, .slice B2 nb b2, vr] ∧ IsOb wx (.agg #[vd, .slice B2 nb b2, vr]) AO ∧ Ext w wx)
  case first =>
   go_region_held3 (fun w' => w'.cell? ⟨w.heap.size, 0, none⟩ = some (.slice A1 m1 c1) ∧ w'.cell? ⟨w.heap.size, 1, none⟩ = some (.slice A2 m c2)) (first | exact L5.out _ (XP.out.trans (by assumption)) | exact L5.out _ (ext_o3 (XP.out.trans (by assumption)) HPS.out _ _ _))
    (first
     | (go_at_call 23; refine (HC2.out _ (by assumption)).mono ?_; rintro e wA ⟨vd, rfl, od, eA⟩; have fA : Ext w2 wA := Ext.trans (by assumption) eA; have jd := OwnD.read od HOK.out HML.out; clear od HC2; obtain ⟨Ad, cd, rfl, -, -, -⟩ := jd.form; have zr := RO2.out.ext fA; have z0 := zr.frozen 0; have z1 := zr.frozen 1; have z2 := zr.frozen 2; have y0 := zr.cell (i := 0) rfl; have y1 := zr.cell (i := 1) rfl; have y2 := zr.cell (i := 2) rfl)
     | (go_at_call 24; refine (HR2.out _ (by assumption)).mono ?_; rintro e wB ⟨vr, rfl, ir, eB⟩; have fB : Ext w2 wB := Ext.trans (by assumption) eB; clear HR2; obtain ⟨Ar, cr, rfl, -, -, -⟩ := ir.form; have zr := RO2.out.ext fB; have z0 := zr.frozen 0; have z1 := zr.frozen 1; have z2 := zr.frozen 2; have y0 := zr.cell (i := 0) rfl; have y1 := zr.cell (i := 1) rfl; have y2 := zr.cell (i := 2) rfl))
   all_goals
    go_wp2
    go_meet
    first
     | exact ⟨rfl, rfl, rfl, _, _, ((zr.set 0 _).set 1 _).set 2 _, isOb_set3 (RO2.out.ext fB) (by rw [HA.out]; exact ⟨_, _, _, rfl, IsDefs.ext jd eB, IsB.ext HIB.out fB, ir⟩) _ _ _, ext_o3 (X2.out.trans fB) (by omega) _ _ _⟩
     | exact ⟨rfl, rfl, rfl, _, _, ((zr.set 0 _).set 1 _).set 2 _, isOb_set3 (RO2.out.ext fA) (by rw [HA.out]; exact ⟨_, _, _, rfl, jd, IsB.ext HIB.out fA, IsRels.ext ir eA⟩) _ _ _, ext_o3 (X2.out.trans fA) (by omega) _ _ _⟩
  case rest =>
   obtain ⟨rfl, rfl, rfl, vd, vr, rr, io, xx⟩ := hcut
   have RR := hx rr
   have IO := hx io
   have XX := hx xx
   clear rr io xx
   go_wp2
   refine bodyPost_ret (results_row_tmp2 #[vd, .slice B2 nb b2, vr] rfl _ _ (w.heap.size + 1) 31 _ rfl ⟨_, RR.out, rfl⟩ Tryz.underlying31 rfl (by kernel_rfl)) rfl ?_
   exact ⟨_, rfl, IO.out, XX.out⟩
 ·have hz' : (re != 0) = true := by simpa using hz
  have HA := hx (show AO = ⟨[], [], []⟩ from HAO.out.trans (if_neg hz))
  clear HRO HAO HJN HRF HCL hz
  go_wp2
  refine bodyPost_ret (results_row_tmp2 #[.slice none 0 0, .slice none 0 0, .slice none 0 0] rfl _ _ (w.heap.size + 1) 31 _ rfl ⟨_, ((RO1.out.set 0 _).set 1 _).set 2 _, rfl⟩ Tryz.underlying31 rfl (by kernel_rfl)) rfl ?_
  exact ⟨_, rfl, by rw [HA.out]; exact ⟨_, _, _, rfl, Sl.nil _, Sl.nil _, Sl.nil _⟩, ext_o3 (E0.out.trans E1.out) (by omega) _ _ _⟩
end Go.Proofs.YtmofdnlefjfcfaaGreatDoor


set_option linter.unusedVariables false
set_option linter.unusedSimpArgs false
namespace Go.Proofs.YtmofdnlefjfcfaaGreatDoor
open Go.RowKit Go.Lib

theorem resL_ok {L : List Stmt} (h : ∀ x ∈ codeL L, x.Ok) (hl : L.length ≤ 100000) : ∀ x ∈ resL L, x.Ok := resX_ok h rfl (by omega)
set_option maxRecDepth 40000 in
set_option maxHeartbeats 8000000 in
theorem refAssemble_any (A1 A2 : Option Addr) (m1 c1 m c2 : Nat) (M : List Def) (L : List Stmt) (w : World) (hm1 : m1 = M.length) (hm1l : m1 ≤ 100000) (hm : m = L.length) (hml : m ≤ 100000) (hd : IsDefs w (.slice A1 m1 c1) M) (hv : IsStmts w (.slice A2 m c2) L) (hfl : (flat L).length ≤ 1000000) :
  Calls Tryz.prog 7 #[.agg #[.slice A1 m1 c1, .slice A2 m c2]] w fun e w' => ∃ v', e = .returned (.tuple #[v', .int .i64 (resE M L).1, .int .i64 (resE M L).2]) ∧ IsOb w' v' (asmO M L) ∧ Ext w w' := by
 obtain ⟨W0, hW0⟩ : ∃ W0, W0 = (w.alloc (.cells #[.slice A1 m1 c1, .slice A2 m c2] 25)).alloc (.cells #[.slice none 0 0, .slice none 0 0, .slice none 0 0] 31) := ⟨_, rfl⟩
 have e0 : Ext w W0 := by rw [hW0]; exact (Ext.new w _).alloc _
 have rP : RowV W0 w.heap.size 25 [.slice A1 m1 c1, .slice A2 m c2] := by
  rw [hW0]
  exact (Ext.new _ _).obj (RowV.new w [.slice A1 m1 c1, .slice A2 m c2] 25)
 obtain ⟨Wp, hWp⟩ : ∃ Wp, Wp = w.alloc (.cells #[.slice A1 m1 c1, .slice A2 m c2] 25) := ⟨_, rfl⟩
 have HPS := hx (show Wp.heap.size ≤ w.heap.size + 1 by rw [hWp, World.size_alloc]; exact Nat.le_refl _)
 have hp0 : RowV Wp w.heap.size 25 [.slice A1 m1 c1, .slice A2 m c2] := by rw [hWp]; exact RowV.new _ _ _
 have hpW : Ext Wp W0 := by rw [hW0, hWp]; exact Ext.new _ _
 have HPW := hx hpW
 have L5 := hx fun (W : World) (h : Ext Wp W) => And.intro ((hp0.ext h).cell (i := 0) rfl) ((hp0.ext h).cell (i := 1) rfl)
 have rO : RowV W0 (w.heap.size + 1) 31 [.slice none 0 0, .slice none 0 0, .slice none 0 0] := by
  rw [hW0]
  have h := RowV.new (w.alloc (.cells #[.slice A1 m1 c1, .slice A2 m c2] 25)) [.slice none 0 0, .slice none 0 0, .slice none 0 0] 31
  rw [World.size_alloc] at h
  exact h
 have hd0 := IsDefs.ext hd e0
 have hv0 := IsStmts.ext hv e0
 have hCR := refResolve_any A1 A2 m1 c1 m c2 M L W0 hm1 hm1l hm (by omega) hd0 hv0 hfl
 have HDD := hx fun (W : World) (h : Ext W0 W) => IsDefs.ext hd0 h
 have HRF := hx fun (W : World) (h : Ext W0 W) => refRefs_any A1 A2 m1 c1 m c2 M L W hm1 (by omega) hm (by omega) (IsDefs.ext hd0 h) (IsStmts.ext hv0 h)
 have HOK := hx (stmts_ok hv)
 have hlr : (resL L).length = m := by unfold resL; rw [List.length_map, List.length_range, hm]
 have HJN := hx fun (W : World) (v : Value) (h : (resE M L).2 = 0) (hi : IsIns W v (resL L)) => refJoinL_any v (resL L) W hi (by rw [hlr]; omega) (fun x hx => encK_of (resL_ok (stmts_ok hv) (by omega) x hx) (insE_zero (resL_insE h x hx)))
 have HRO := hx (show resO M L = if (resE M L).2 = 0 then resL L else [] from rfl)
 have HAO := hx (show asmO M L = if (resE M L).2 = 0 then ⟨M, (resL L).flatMap encX9, refsOf M L m⟩ else ⟨[], [], []⟩ by rw [hm]; rfl)
 have HBY := hx (encs9_byt (resL L))
 have HBL := hx (show ((resL L).flatMap encX9).length ≤ 281474976710656 by have := encs9_length (resL L); omega)
 have HZ := hx (show (resE M L).2 = 0 → (resE M L).1 = 0 from fun h => by rw [resE_z h])
 rw [hW0] at hCR
 have HCR := hx hCR
 have HW0 := hx hW0
 have E0 := hx e0
 have q0 := rP.cell (i := 0) rfl
 have q1 := rP.cell (i := 1) rfl
 have RP := hx rP
 have RO' := hx rO
 clear hWp hp0 hpW hd hv hfl hd0 hv0 rP rO e0 hm1 hW0 hm hlr hCR
 generalize resE M L = RE at *
 generalize resO M L = RO at *
 generalize asmO M L = AO at *
 generalize refsOf M L m = RS at *
 generalize (resL L).flatMap encX9 = CD at *
 obtain ⟨ra, re⟩ := RE
 dsimp only at *
 go_enter Tryz.func7, Tryz.ntmps7
 go_wp2_with fail
 refine HCR.out.mono ?_
 rintro e w1 ⟨v1, rfl, i1, e1⟩
 rw [← HW0.out] at e1
 have q0' := e1.cell q0
 have q1' := e1.cell q1
 have rO1 := RO'.out.ext e1
 have r0 := rO1.cell (i := 0) rfl
 have r1 := rO1.cell (i := 1) rfl
 have r2 := rO1.cell (i := 2) rfl
 have f0 := rO1.frozen 0
 have f1 := rO1.frozen 1
 have f2 := rO1.frozen 2
 have E1 := hx e1
 clear q0 q1 HCR
 by_cases hz : re = 0
 ·subst hz
  have hra : ra = 0 := HZ.out rfl
  subst hra
  have HO := hx (show RO = resL L from HRO.out.trans (if_pos rfl))
  have HA := hx (show AO = ⟨M, CD, RS⟩ from HAO.out.trans (if_pos rfl))
  rw [HO.out] at i1
  have HJ := hx fun (W : World) (h : Ext w1 W) => HJN.out W v1 rfl (IsIns.ext i1 h)
  have HR := hx fun (W : World) (h : Ext w1 W) => HRF.out W (e1.trans h)
  obtain ⟨B1, b1, rfl, -, -, -⟩ := i1.form
  clear HRO HAO HJN HRF e1 i1
  have RO1 := hx rO1
  have XP := hx (HPW.out.trans E1.out)
  clear q0' q1' r0 r1 r2 f0 f1 f2 rO1
  go_upto_region 4 with fail
  have hr0 : Ext w1 w1 := Ext.refl w1
  have hd2 : Ext w1 w1.drew := (Ext.refl w1).drew
  go_cut [2, 3, 4] (fun s2 s3 s4 wx => s2 = .pointer (some ⟨w.heap.size + 1, 0, none⟩) ∧ s3 = .int .i64 0 ∧ s4 = .int .i64 0 ∧ ∃ vb vr, RowV wx (w.heap.size + 1) 31 [.slice A1 m1 c1, vb, vr] ∧ IsOb wx (.agg #[.slice A1 m1 c1, vb, vr]) AO ∧ Ext w wx)
  case first =>
   go_region_held3 (fun w' => w'.cell? ⟨w.heap.size, 0, none⟩ = some (.slice A1 m1 c1) ∧ w'.cell? ⟨w.heap.size, 1, none⟩ = some (.slice A2 m c2)) (first | exact L5.out _ (XP.out.trans (by assumption)) | exact L5.out _ (ext_o3 (XP.out.trans (by assumption)) HPS.out _ _ _))
    (first
     | (go_at_call 19; refine (HJ.out _ (by assumption)).mono ?_; rintro e wA ⟨vb, rfl, ob, eA⟩; have fA : Ext w1 wA := Ext.trans (by assumption) eA; have ib := OwnB.read ob HBY.out HBL.out; clear ob HJ; obtain ⟨Ab, cb, rfl, -, -, -⟩ := ib.form; have zr := RO1.out.ext fA; have z0 := zr.frozen 0; have z1 := zr.frozen 1; have z2 := zr.frozen 2; have y0 := zr.cell (i := 0) rfl; have y1 := zr.cell (i := 1) rfl; have y2 := zr.cell (i := 2) rfl)
     | (go_at_call 20; refine (HR.out _ (by assumption)).mono ?_; rintro e wB ⟨vr, rfl, ir, eB⟩; have fB : Ext w1 wB := Ext.trans (by assumption) eB; clear HR; obtain ⟨Ar, cr, rfl, -, -, -⟩ := ir.form; have zr := RO1.out.ext fB; have z0 := zr.frozen 0; have z1 := zr.frozen 1; have z2 := zr.frozen 2; have y0 := zr.cell (i := 0) rfl; have y1 := zr.cell (i := 1) rfl; have y2 := zr.cell (i := 2) rfl))
   all_goals
    go_wp2
    go_meet
    first
     | exact ⟨rfl, rfl, rfl, _, _, ((zr.set 0 _).set 1 _).set 2 _, isOb_set3 (RO1.out.ext fB) (by rw [HA.out]; exact ⟨_, _, _, rfl, HDD.out _ (E1.out.trans fB), IsB.ext ib eB, ir⟩) _ _ _, ext_o3 ((E0.out.trans E1.out).trans fB) (by omega) _ _ _⟩
     | exact ⟨rfl, rfl, rfl, _, _, ((zr.set 0 _).set 1 _).set 2 _, isOb_set3 (RO1.out.ext fA) (by rw [HA.out]; exact ⟨_, _, _, rfl, HDD.out _ (E1.out.trans fA), ib, IsRels.ext ir eA⟩) _ _ _, ext_o3 ((E0.out.trans E1.out).trans fA) (by omega) _ _ _⟩
  case rest =>
   obtain ⟨rfl, rfl, rfl, vb, vr, rr, io, xx⟩ := hcut
   have RR := hx rr
   have IO := hx io
   have XX := hx xx
   clear rr io xx
   go_wp2
   refine bodyPost_ret (results_row_tmp2 #[.slice A1 m1 c1, vb, vr] rfl _ _ (w.heap.size + 1) 31 _ rfl ⟨_, RR.out, rfl⟩ Tryz.underlying31 rfl (by kernel_rfl)) rfl ?_
   exact ⟨_, rfl, IO.out, XX.out⟩
 ·have hz' : (re != 0) = true := by simpa using hz
  have HA := hx (show AO = ⟨[], [], []⟩ from HAO.out.trans (if_neg hz))
  have RO1 := hx rO1
  clear HRO HAO HJN HRF hz
  go_wp2
  refine bodyPost_ret (results_row_tmp2 #[.slice none 0 0, .slice none 0 0, .slice none 0 0] rfl _ _ (w.heap.size + 1) 31 _ rfl ⟨_, ((RO1.out.set 0 _).set 1 _).set 2 _, rfl⟩ Tryz.underlying31 rfl (by kernel_rfl)) rfl ?_
  exact ⟨_, rfl, by rw [HA.out]; exact ⟨_, _, _, rfl, Sl.nil _, Sl.nil _, Sl.nil _⟩, ext_o3 (E0.out.trans E1.out) (by omega) _ _ _⟩
end Go.Proofs.YtmofdnlefjfcfaaGreatDoor


set_option linter.unusedVariables false
set_option linter.unusedSimpArgs false
namespace Go.Proofs.YtmofdnlefjfcfaaGreatDoor
open Go.RowKit Go.Lib

/-- Is a program small? -/
def fewP (M : List Def) (L : List Stmt) : Bool := decide (M.length ≤ 300) && decide (L.length ≤ 60) && decide ((flat L).length ≤ 200)
set_option maxRecDepth 40000 in
set_option maxHeartbeats 4000000 in
theorem refFew_any (A1 A2 : Option Addr) (m1 c1 m c2 : Nat) (M : List Def) (L : List Stmt) (w : World) (hm1 : m1 = M.length) (hm1l : m1 ≤ 281474976710656) (hm : m = L.length) (hml : m ≤ 281474976710656) (hv : IsStmts w (.slice A2 m c2) L) :
  Calls Tryz.prog 5 #[.agg #[.slice A1 m1 c1, .slice A2 m c2]] w fun e w' => e = .returned (.bool (fewP M L)) ∧ Ext w w' := by
 obtain ⟨W0, hW0⟩ : ∃ W0, W0 = w.alloc (.cells #[.slice A1 m1 c1, .slice A2 m c2] 25) := ⟨_, rfl⟩
 have e0 : Ext w W0 := by rw [hW0]; exact Ext.new w _
 have q0 : W0.cell? ⟨w.heap.size, 0, none⟩ = some (.slice A1 m1 c1) := by rw [hW0]; simp
 have q1 : W0.cell? ⟨w.heap.size, 1, none⟩ = some (.slice A2 m c2) := by rw [hW0]; simp
 have hv0 := IsStmts.ext hv e0
 have HM := hx hm
 have HFP := hx (show fewP M L = (decide (m1 ≤ 300) && decide (m ≤ 60) && decide ((flat L).length ≤ 200)) by rw [hm1, hm]; rfl)
 have E0 := hx e0
 clear hm hm1 hv e0
 go_enter Tryz.func5, Tryz.ntmps5
 go_wp2
 rw [← hW0]
 clear hW0
 go_loop [3, 4] (fun n i => ∃ (k t : Nat), k ≤ m ∧ k ≤ 61 ∧ i = .int .i64 (k : Nat) ∧ n = .int .i64 (t : Nat) ∧ t = (flat (L.take k)).length ∧ t ≤ k * 281474976710656) (fun _ i => m - (RowKit.intOf i).toNat)
 case atStart => exact ⟨0, 0, by omega, by omega, rfl, rfl, rfl, by omega⟩
 case round =>
  obtain ⟨k, t, hk, hk2, rfl, rfl, ht, htb⟩ := hrel
  have HT := hx ht
  clear ht
  by_cases hlt : k < m
  ·have hkm : (k : Int) < (m : Int) := by omega
   by_cases h60 : k ≤ 60
   ·have hk60 : decide ((k : Int) ≤ 60) = true := decide_eq_true (by omega)
    obtain ⟨x, hx0⟩ : ∃ x, L[k]? = some x := ⟨_, List.getElem?_eq_getElem (by have := HM.out; omega)⟩
    obtain ⟨b, o, rfl, vl, d0, dl, -, -, -, -⟩ := hv0.get hx0
    obtain ⟨Al, cl, rfl, -, hll, -⟩ := dl.form
    have hft : (flat (L.take (k + 1))).length = t + x.labels.length := by
     rw [List.take_add_one, hx0, flat_app, List.length_append, ← HT.out]
     simp [flat]
    have HFT := hx hft
    generalize x.labels.length = ll at *
    have hwr : wrap64 ((t : Int) + (ll : Int)) = ((t + ll : Nat) : Int) := by unfold wrap64; omega
    have hle : t + ll ≤ (k + 1) * 281474976710656 := by omega
    have HLE := hx hle
    have HWR := hx hwr
    clear dl hx0 hft hle hwr htb
    go_wp2
    go_round
    case rel => exact ⟨k + 1, t + ll, by omega, by omega, by go_num, by rw [HWR.out], HFT.out.symm, HLE.out⟩
    case measure => simp [RowKit.intOf]; omega
   ·have hk60 : decide ((k : Int) ≤ 60) = false := decide_eq_false (by omega)
    have hm60 : decide ((m : Int) ≤ 60) = false := decide_eq_false (by omega)
    have HR := hx (show fewP M L = false by rw [HFP.out, decide_eq_false (p := m ≤ 60) (by omega)]; simp)
    by_cases h3 : m1 ≤ 300
    ·have hd3 : decide ((m1 : Int) ≤ 300) = true := decide_eq_true (by omega)
     clear htb
     go_wp2
     go_ret
     exact ⟨ret_bool HR.out.symm, E0.out⟩
    ·have hd3 : decide ((m1 : Int) ≤ 300) = false := decide_eq_false (by omega)
     clear htb
     go_wp2
     go_ret
     exact ⟨ret_bool HR.out.symm, E0.out⟩
  ·obtain rfl : m = k := by omega
   have ht2 : t = (flat L).length := by rw [HT.out, List.take_of_length_le (by rw [← HM.out]; exact Nat.le_refl _)]
   rw [← ht2] at HFP
   have hFP := HFP.out
   by_cases h3 : m1 ≤ 300
   ·have hd3 : decide ((m1 : Int) ≤ 300) = true := decide_eq_true (by omega)
    rw [decide_eq_true h3] at hFP
    by_cases h6 : m ≤ 60
    ·have hd6 : decide ((m : Int) ≤ 60) = true := decide_eq_true (by omega)
     rw [decide_eq_true h6] at hFP
     by_cases h2 : t ≤ 200
     ·have hd2 : decide ((t : Int) ≤ 200) = true := decide_eq_true (by omega)
      rw [decide_eq_true h2] at hFP
      have HR := hx hFP
      clear hFP htb ht2
      go_wp2
      go_ret
      exact ⟨ret_bool HR.out.symm, E0.out⟩
     ·have hd2 : decide ((t : Int) ≤ 200) = false := decide_eq_false (by omega)
      rw [decide_eq_false h2] at hFP
      have HR := hx hFP
      clear hFP htb ht2
      go_wp2
      go_ret
      exact ⟨ret_bool HR.out.symm, E0.out⟩
    ·have hd6 : decide ((m : Int) ≤ 60) = false := decide_eq_false (by omega)
     rw [decide_eq_false h6] at hFP
     have HR := hx hFP
     clear hFP htb ht2
     go_wp2
     go_ret
     exact ⟨ret_bool (by rw [HR.out]; simp), E0.out⟩
   ·have hd3 : decide ((m1 : Int) ≤ 300) = false := decide_eq_false (by omega)
    rw [decide_eq_false h3] at hFP
    have HR := hx hFP
    clear hFP htb ht2
    go_wp2
    go_ret
    exact ⟨ret_bool (by rw [HR.out]; simp), E0.out⟩
end Go.Proofs.YtmofdnlefjfcfaaGreatDoor


set_option linter.unusedVariables false
set_option linter.unusedSimpArgs false
namespace Go.Proofs.YtmofdnlefjfcfaaGreatDoor
open Go.RowKit Go.Lib

def oA : Ob := ⟨[], [149, 0, 0, 0, 0, 0, 0, 0], []⟩
theorem oA_err : obE oA = 0 := by decide +kernel
theorem oA_len : (packOf oA).length = 96 := by decide +kernel
theorem oA_pa : paOk (packOf oA) := by decide +kernel
theorem oA_pk : pkOut oA = packOf oA := by unfold pkOut; rw [if_pos oA_err]
theorem obNil_err : obE obNil = 17 := by decide +kernel
theorem nil_pa : ¬ paOk [] := by decide +kernel
theorem oA_out : paOut (packOf oA) = oA := by
 have h : obOf (rdOut (packOf oA)) = ⟨[], [149, 0, 0, 0, 0, 0, 0, 0], []⟩ := by
  have h1 : (obOf (rdOut (packOf oA))).maps.length = 0 := by decide +kernel
  have h2 : (obOf (rdOut (packOf oA))).code = [149, 0, 0, 0, 0, 0, 0, 0] := by decide +kernel
  have h3 : (obOf (rdOut (packOf oA))).rels.length = 0 := by decide +kernel
  generalize obOf (rdOut (packOf oA)) = O at *
  obtain ⟨m, c, r⟩ := O
  simp only at h1 h2 h3
  rw [List.eq_nil_of_length_eq_zero h1, h2, List.eq_nil_of_length_eq_zero h3]
 unfold paOut
 rw [if_pos oA_pa, h]; rfl
end Go.Proofs.YtmofdnlefjfcfaaGreatDoor


set_option linter.unusedVariables false
set_option linter.unusedSimpArgs false
namespace Go.Proofs.YtmofdnlefjfcfaaGreatDoor
open Go.RowKit Go.Lib

end Go.Proofs.YtmofdnlefjfcfaaGreatDoor


set_option linter.unusedVariables false
set_option linter.unusedSimpArgs false
namespace Go.Proofs.YtmofdnlefjfcfaaGreatDoor
open Go.RowKit Go.Lib

end Go.Proofs.YtmofdnlefjfcfaaGreatDoor


set_option linter.unusedVariables false
set_option linter.unusedSimpArgs false
namespace Go.Proofs.YtmofdnlefjfcfaaGreatDoor
open Go.RowKit Go.Lib

/-- A definition's block. -/
def RowD (w : World) (g : Nat) (d : Def) : Prop := w.heap[g]? = some (.cells #[.string d.name, .int .i64 d.key, .int .i64 d.val, .int .i64 d.ents] 65 (0, 0))
theorem RowD.c1 {w : World} {g : Nat} {d : Def} (h : RowD w g d) : w.cell? ⟨g, 1, none⟩ = some (.int .i64 d.key) := by simp [World.cell?, show w.heap[g]? = _ from h]
theorem RowD.c2 {w : World} {g : Nat} {d : Def} (h : RowD w g d) : w.cell? ⟨g, 2, none⟩ = some (.int .i64 d.val) := by simp [World.cell?, show w.heap[g]? = _ from h]
theorem RowD.c3 {w : World} {g : Nat} {d : Def} (h : RowD w g d) : w.cell? ⟨g, 3, none⟩ = some (.int .i64 d.ents) := by simp [World.cell?, show w.heap[g]? = _ from h]
end Go.Proofs.YtmofdnlefjfcfaaGreatDoor


set_option linter.unusedVariables false
set_option linter.unusedSimpArgs false
namespace Go.Proofs.YtmofdnlefjfcfaaGreatDoor
open Go.RowKit Go.Lib

set_option maxRecDepth 40000 in
set_option maxHeartbeats 4000000 in
theorem ref13_Same_eq (va vb : Value) (o : Ob) (w : World) (ha : IsOb w va o) (hb : IsOb w vb o) (hm : o.maps.length ≤ 1000000) (hr : o.rels.length ≤ 1000000) :
  Calls Tryz.prog 12 #[va, vb] w fun e w' => e = .returned (.bool true) ∧ Ext w w' := by
 obtain ⟨v1, v2, v3, rfl, d1, d2, d3⟩ := ha
 obtain ⟨A1, c1, rfl, -, -, d1'⟩ := d1.form
 obtain ⟨A2, c2, rfl, -, hcl, d2'⟩ := d2.form
 obtain ⟨A3, c3, rfl, -, -, d3'⟩ := d3.form
 obtain ⟨u1, u2, u3, rfl, f1, f2, f3⟩ := hb
 obtain ⟨B1, n1, rfl, -, -, f1'⟩ := f1.form
 obtain ⟨B2, n2, rfl, -, hcl2, f2'⟩ := f2.form
 obtain ⟨B3, n3, rfl, -, -, f3'⟩ := f3.form
 obtain ⟨W0, hW0⟩ : ∃ W0, W0 = (w.alloc (.cells #[.slice A1 o.maps.length c1, .slice A2 o.code.length c2, .slice A3 o.rels.length c3] 31)).alloc (.cells #[.slice B1 o.maps.length n1, .slice B2 o.code.length n2, .slice B3 o.rels.length n3] 31) := ⟨_, rfl⟩
 have e0 : Ext w W0 := by rw [hW0]; exact (Ext.new _ _).alloc _
 have r1 : RowO W0 w.heap.size (.slice A1 o.maps.length c1) (.slice A2 o.code.length c2) (.slice A3 o.rels.length c3) := by rw [hW0]; exact (rowO_new w _ _ _).ext (Ext.new _ _)
 have r2 : RowO W0 (w.heap.size + 1) (.slice B1 o.maps.length n1) (.slice B2 o.code.length n2) (.slice B3 o.rels.length n3) := by
  rw [hW0]
  have h := rowO_new (w.alloc (.cells #[.slice A1 o.maps.length c1, .slice A2 o.code.length c2, .slice A3 o.rels.length c3] 31)) (.slice B1 o.maps.length n1) (.slice B2 o.code.length n2) (.slice B3 o.rels.length n3)
  rwa [World.size_alloc] at h
 have hS := sameB_any _ _ o.code o.code W0 (IsB.ext d2' e0) (IsB.ext f2' e0)
 rw [decide_eq_true rfl] at hS
 rw [hW0] at hS
 have HW0 := hx hW0
 clear hW0 d1 d2 d3 f1 f2 f3
 go_enter Tryz.func12, Tryz.ntmps12
 go_wp2_with (first | (go_at_call 38; refine hS.mono ?_; rintro e w1 ⟨rfl, e1⟩; rw [← HW0.out] at e1; have x1 := r1.ext e1; have x2 := r2.ext e1; have a0 := x1.c0; have a2 := x1.c2; have b0 := x2.c0; have b2 := x2.c2))
 clear hS
 have ew1 := e0.trans e1
 clear e1 a0 a2 b0 b2
 go_loopw [5] (fun i wr => ∃ (pre suf : List Def), o.maps = pre ++ suf ∧ i = .int .i64 (pre.length : Nat) ∧ Ext w1 wr) (fun i _ => o.maps.length - (RowKit.intOf i).toNat)
 case atStart => exact ⟨[], o.maps, rfl, rfl, Ext.refl _⟩
 case round =>
  obtain ⟨pre, suf, hl', rfl, he⟩ := hrel
  have hpl : pre.length ≤ 1000000 := by have := congrArg List.length hl'; simp at this; omega
  have ew := ew1.trans he
  have y1 := x1.ext he
  have y2 := x2.ext he
  have a0 := y1.c0
  have b0 := y2.c0
  cases suf with
  | cons x suf =>
   have hlt : pre.length < o.maps.length := by rw [hl']; simp
   have hvx := d1'
   have hvy := f1'
   rw [hl'] at hvx hvy
   obtain ⟨b, o1, rfl, ⟨t1, t2, t3, t4⟩, -⟩ := hvx.at
   obtain ⟨bb, o2, rfl, ⟨s1, s2, s3, s4⟩, -⟩ := hvy.at
   replace t1 := ew.cell t1
   replace t2 := ew.cell t2
   replace t3 := ew.cell t3
   replace t4 := ew.cell t4
   replace s1 := ew.cell s1
   replace s2 := ew.cell s2
   replace s3 := ew.cell s3
   replace s4 := ew.cell s4
   have HL := hx hl'; clear hl' hvx hvy
   have j0 : (0 : Int) ≤ (pre.length : Int) := by omega
   have j1 : (pre.length : Int) < (o.maps.length : Int) := by omega
   have ed := he.drew
   go_wp2
   go_region
   go_wp2
   go_roundw
   case rel => exact ⟨pre ++ [x], suf, by simp [HL.out], by simp, ed⟩
   case measure => simp [RowKit.intOf]; omega
  | nil =>
   obtain rfl : o.maps = pre := by simpa using hl'
   clear hl'
   have hlt : ¬ o.maps.length < o.maps.length := by omega
   go_wp2
   clear a0 b0
   obtain ⟨W6, rfl⟩ : ∃ W6 : World, W6 = wr := ⟨_, rfl⟩
   go_loopw [6] (fun i wr => ∃ (pre suf : List Rel), o.rels = pre ++ suf ∧ i = .int .i64 (pre.length : Nat) ∧ Ext W6 wr) (fun i _ => o.rels.length - (RowKit.intOf i).toNat)
   case atStart => exact ⟨[], o.rels, rfl, rfl, Ext.refl _⟩
   case round =>
    obtain ⟨pre, suf, hl', rfl, he2⟩ := hrel
    have hpl : pre.length ≤ 1000000 := by have := congrArg List.length hl'; simp at this; omega
    have ew2 := ew.trans he2
    have z1 := y1.ext he2
    have z2 := y2.ext he2
    have a2 := z1.c2
    have b2 := z2.c2
    cases suf with
    | cons x suf =>
     have hlt : pre.length < o.rels.length := by rw [hl']; simp
     have hvx := d3'
     have hvy := f3'
     rw [hl'] at hvx hvy
     obtain ⟨b, o1, rfl, ⟨t1, t2⟩, -⟩ := hvx.at
     obtain ⟨bb, o2, rfl, ⟨s1, s2⟩, -⟩ := hvy.at
     replace t1 := ew2.cell t1
     replace t2 := ew2.cell t2
     replace s1 := ew2.cell s1
     replace s2 := ew2.cell s2
     have HL := hx hl'; clear hl' hvx hvy
     have j0 : (0 : Int) ≤ (pre.length : Int) := by omega
     have j1 : (pre.length : Int) < (o.rels.length : Int) := by omega
     have ed := he2.drew
     go_wp2
     go_region
     go_wp2
     go_roundw
     case rel => exact ⟨pre ++ [x], suf, by simp [HL.out], by simp, ed⟩
     case measure => simp [RowKit.intOf]; omega
    | nil =>
     obtain rfl : o.rels = pre := by simpa using hl'
     clear hl'
     have hlt : ¬ o.rels.length < o.rels.length := by omega
     go_wp2
     go_ret
     exact ⟨rfl, ew2⟩
end Go.Proofs.YtmofdnlefjfcfaaGreatDoor


set_option linter.unusedVariables false
set_option linter.unusedSimpArgs false
namespace Go.Proofs.YtmofdnlefjfcfaaGreatDoor
open Go.RowKit Go.Lib

theorem isOb_form {w : World} {v : Value} {o : Ob} (h : IsOb w v o) : ∃ A1 c1 A2 c2 A3 c3, v = .agg #[.slice A1 o.maps.length c1, .slice A2 o.code.length c2, .slice A3 o.rels.length c3] ∧ IsOb w (.agg #[.slice A1 o.maps.length c1, .slice A2 o.code.length c2, .slice A3 o.rels.length c3]) o := by
 obtain ⟨v1, v2, v3, rfl, d1, d2, d3⟩ := id h
 obtain ⟨A1, c1, rfl, -⟩ := d1.form
 obtain ⟨A2, c2, rfl, -⟩ := d2.form
 obtain ⟨A3, c3, rfl, -⟩ := d3.form
 exact ⟨A1, c1, A2, c2, A3, c3, rfl, h⟩
/-- An object's three slices. -/
def ObV (w : World) (A1 : Option Addr) (c1 : Nat) (A2 : Option Addr) (c2 : Nat) (A3 : Option Addr) (c3 : Nat) (n1 n2 n3 : Nat) (o : Ob) : Prop := IsOb w (.agg #[.slice A1 n1 c1, .slice A2 n2 c2, .slice A3 n3 c3]) o
end Go.Proofs.YtmofdnlefjfcfaaGreatDoor


set_option linter.unusedVariables false
set_option linter.unusedSimpArgs false
namespace Go.Proofs.YtmofdnlefjfcfaaGreatDoor
open Go.RowKit Go.Lib

set_option maxRecDepth 40000 in
set_option maxHeartbeats 4000000 in
theorem alive_any (w : World) (hG : Glob w) (hN : NoneV w) : Calls Tryz.prog 6 #[] w fun e w' => e = .returned (.bool true) ∧ Ext w w' := by
 obtain ⟨PA, hPA⟩ : ∃ P, P = packOf oA := ⟨_, rfl⟩
 have hPl : PA.length = 96 := by rw [hPA]; exact oA_len
 have CP := hx (fun (W : World) (hW : Ext w W) (v : Value) (ho : IsOb W v oA) => (object_Pack_any v oA W ho (by decide) (by decide) (hG.ext hW) (hN.ext hW)).mono (R' := fun e w' => ∃ A c, e = .returned (.tuple #[.slice A 96 c, .int .i64 0]) ∧ IsB w' (.slice A 96 c) PA ∧ Ext W w') fun e w' ⟨v', h1, h2, h3⟩ => by
  rw [oA_pk, ← hPA] at h2
  obtain ⟨A, c, rfl, -, -, h2'⟩ := h2.form
  rw [hPl] at h1 h2'
  exact ⟨A, c, by rw [h1, oA_err], h2', h3⟩)
 have CR := hx (fun (W : World) (hW : Ext w W) (A : Option Addr) (c : Nat) (ho : IsB W (.slice A 96 c) PA) => (object_Parse_any _ PA W ho (by rw [hPl]; decide) (hG.ext hW) (hN.ext hW)).mono (R' := fun e w' => ∃ A1 c1 A2 c2 A3 c3, e = .returned (.tuple #[.agg #[.slice A1 0 c1, .slice A2 8 c2, .slice A3 0 c3], .int .i64 0]) ∧ ObV w' A1 c1 A2 c2 A3 c3 0 8 0 oA ∧ Ext W w') fun e w' ⟨v', h1, h2, h3⟩ => by
  have hp : paOk PA := by rw [hPA]; exact oA_pa
  have ho' : paOut PA = oA := by rw [hPA]; exact oA_out
  rw [ho'] at h2
  obtain ⟨A1, c1, A2, c2, A3, c3, rfl, h⟩ := isOb_form h2
  exact ⟨A1, c1, A2, c2, A3, c3, by rw [h1]; unfold paErr; rw [if_pos hp]; rfl, h, h3⟩)
 have CN := hx (fun (W : World) (hW : Ext w W) => (object_Parse_any (.slice none 0 0) [] W (Sl.nil _) (by decide) (hG.ext hW) (hN.ext hW)).mono (R' := fun e w' => ∃ A1 c1 A2 c2 A3 c3, e = .returned (.tuple #[.agg #[.slice A1 0 c1, .slice A2 0 c2, .slice A3 0 c3], .int .i64 19]) ∧ Ext W w') fun e w' ⟨v', h1, h2, h3⟩ => by
  have ho' : paOut [] = obNil := by unfold paOut; rw [if_neg nil_pa]
  rw [ho'] at h2
  obtain ⟨A1, c1, A2, c2, A3, c3, rfl, h⟩ := isOb_form h2
  exact ⟨A1, c1, A2, c2, A3, c3, by rw [h1]; unfold paErr; rw [if_neg nil_pa]; rfl, h3⟩)
 have CZ := hx (fun (W : World) (hW : Ext w W) (v : Value) (ho : IsOb W v oA) => (object_Size_any v oA W ho (by decide) (by decide) (hG.ext hW) (hN.ext hW)).mono (R' := fun e w' => e = .returned (.int .i64 96) ∧ Ext W w') fun e w' ⟨h1, h2⟩ => ⟨by rw [h1, oA_pk, oA_len]; rfl, h2⟩)
 have CC := hx (fun (W : World) (hW : Ext w W) => (object_Check_any _ obNil W (isOb_nil W) (by decide) (by decide) (hG.ext hW) (hN.ext hW)).mono (R' := fun e w' => e = .returned (.int .i64 17) ∧ Ext W w') fun e w' ⟨h1, h2⟩ => ⟨by rw [h1, obNil_err], h2⟩)
 have CS := hx (fun (W : World) (va vb : Value) (ha : IsOb W va oA) (hb : IsOb W vb oA) => ref13_Same_eq va vb oA W ha hb (by decide) (by decide))
 clear hG hN hPA hPl
 obtain ⟨W1, hW1⟩ : ∃ W1, W1 = w.alloc (.cells #[.int .u8 149, .int .u8 0, .int .u8 0, .int .u8 0, .int .u8 0, .int .u8 0, .int .u8 0, .int .u8 0] 5) := ⟨_, rfl⟩
 have x1 : Ext w W1 := by rw [hW1]; exact Ext.new _ _
 have hs1 : W1.heap.size = w.heap.size + 1 := by rw [hW1]; simp
 have hrow : RowB W1 w.heap.size [149, 0, 0, 0, 0, 0, 0, 0] := by rw [hW1]; exact heap_alloc_new w _
 obtain ⟨W0, hW0⟩ : ∃ W0, W0 = W1.alloc (.cells #[.slice none 0 0, .slice (some ⟨w.heap.size, 0, none⟩) 8 8, .slice none 0 0] 31) := ⟨_, rfl⟩
 have e0 : Ext w W0 := by rw [hW0]; exact x1.alloc _
 have r0 : RowO W0 (w.heap.size + 1) (.slice none 0 0) (.slice (some ⟨w.heap.size, 0, none⟩) 8 8) (.slice none 0 0) := by
  rw [hW0]
  have h := rowO_new W1 (.slice none 0 0) (.slice (some ⟨w.heap.size, 0, none⟩) 8 8) (.slice none 0 0)
  rwa [hs1] at h
 have iA : IsOb W0 (.agg #[.slice none 0 0, .slice (some ⟨w.heap.size, 0, none⟩) 8 8, .slice none 0 0]) oA := by
  refine ⟨_, _, _, rfl, Sl.nil _, ?_, Sl.nil _⟩
  have h : RowB W0 w.heap.size [149, 0, 0, 0, 0, 0, 0, 0] := hrow.ext (by rw [hW0]; exact Ext.new _ _)
  exact h.read (by intro x hx; simp at hx; omega) rfl (by decide)
 have hP0 := CP.out W0 e0 _ iA
 rw [hW0, hW1] at hP0
 have HW0 := hx hW0
 have HW1 := hx hW1
 clear hW0 hW1 hs1 hrow x1
 go_enter Tryz.func6, Tryz.ntmps6
 go_wp2_with fail
 refine hP0.mono ?_
 rintro e w1 ⟨Ab, cb, rfl, ib, e1⟩
 rw [← HW1.out, ← HW0.out] at e1
 clear hP0
 go_wp2_with fail
 refine (CR.out w1 (e0.trans e1) _ _ ib).mono ?_
 rintro e w2 ⟨A1, c1, A2, c2, A3, c3, rfl, i2, e2⟩
 go_wp2_with fail
 obtain ⟨W3, hW3⟩ : ∃ W3, W3 = w2.alloc (.cells #[.slice A1 0 c1, .slice A2 8 c2, .slice A3 0 c3] 31) := ⟨_, rfl⟩
 have x3 : Ext w2 W3 := by rw [hW3]; exact Ext.new _ _
 have r3 : RowO W3 w2.heap.size (.slice A1 0 c1) (.slice A2 8 c2) (.slice A3 0 c3) := by rw [hW3]; exact rowO_new _ _ _ _
 have E3 := e0.trans ((e1.trans e2).trans x3)
 rw [← hW3]
 clear hW3
 refine (CN.out W3 E3).mono ?_
 rintro e w4 ⟨D1, n1, D2, n2, D3, n3, rfl, e4⟩
 have f4 := e4.alloc (.cells #[.slice D1 0 n1, .slice D2 0 n2, .slice D3 0 n3] 31)
 have s0 := r0.ext (((e1.trans e2).trans x3).trans f4)
 have s3 := r3.ext f4
 have k0 := s0.c0
 have k1 := s0.c1
 have k2 := s0.c2
 have l0 := s3.c0
 have l1 := s3.c1
 have l2 := s3.c2
 have iA4 := iA.ext (((e1.trans e2).trans x3).trans f4)
 have i24 := IsOb.ext i2 (x3.trans f4)
 have E4 := E3.trans f4
 have hS := CS.out _ _ _ iA4 i24
 clear iA i2 r0 r3 e1 e2 x3 e4 ib
 go_wp2_with fail
 refine hS.mono ?_
 rintro e w5 ⟨rfl, e5⟩
 replace k0 := e5.cell k0
 replace k1 := e5.cell k1
 replace k2 := e5.cell k2
 have hZ := CZ.out w5 (E4.trans e5) _ (iA4.ext e5)
 clear l0 l1 l2 hS
 go_wp2_with fail
 refine hZ.mono ?_
 rintro e w6 ⟨rfl, e6⟩
 have hCC := CC.out w6 ((E4.trans e5).trans e6)
 go_wp2_with fail
 refine hCC.mono ?_
 rintro e w7 ⟨rfl, e7⟩
 go_wp2
 go_ret
 exact ⟨rfl, ((E4.trans e5).trans e6).trans e7⟩
end Go.Proofs.YtmofdnlefjfcfaaGreatDoor
