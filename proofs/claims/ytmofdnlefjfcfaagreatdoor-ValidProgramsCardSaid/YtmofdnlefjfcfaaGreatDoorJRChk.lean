/- The layer prog, the reference: Check. -/
import Derived.Test.YtmofdnlefjfcfaaGreatDoorJRLab
import Derived.Test.YtmofdnlefjfcfaaGreatDoorJSlot
import Derived.Test.YtmofdnlefjfcfaaGreatDoorJAll
import Derived.Deep.RegionHeld3
set_option linter.unusedVariables false
set_option linter.unusedSimpArgs false
namespace Go.Proofs.YtmofdnlefjfcfaaGreatDoor
open Go.RowKit Go.Lib

set_option maxRecDepth 40000 in
set_option maxHeartbeats 16000000 in
theorem refCheck10_any (A1 A2 : Option Addr) (m1 c1 m c2 : Nat) (M : List Def) (L : List Stmt) (w : World) (hm1 : m1 = M.length) (hm1l : m1 ≤ 100000) (hm : m = L.length) (hml : m ≤ 1000000) (hd : IsDefs w (.slice A1 m1 c1) M) (hv : IsStmts w (.slice A2 m c2) L) (hfl : (flat L).length ≤ 1000000) :
  Calls Tryz.prog 43 #[.agg #[.slice A1 m1 c1, .slice A2 m c2]] w fun e w' => e = .returned (.tuple #[.int .i64 (pchk M L).1, .int .i64 (pchk M L).2]) ∧ Ext w w' := by
 obtain ⟨W0, hW0⟩ : ∃ W0, W0 = w.alloc (.cells #[.slice A1 m1 c1, .slice A2 m c2] 25) := ⟨_, rfl⟩
 have e0 : Ext w W0 := by rw [hW0]; exact Ext.new w _
 have rP : RowV W0 w.heap.size 25 [.slice A1 m1 c1, .slice A2 m c2] := by rw [hW0]; exact RowV.new _ _ _
 have hs0 : W0.heap.size = w.heap.size + 1 := by rw [hW0]; simp
 have HLB := hx fun (W : World) (hW : Ext w W) => refLabels_any A1 A2 m1 c1 m c2 L W hm hml (IsStmts.ext hv hW) hfl
 have HLA := hx fun (s : ByteArray) (W : World) (hW : Ext w W) => refLabel_any A1 A2 m1 c1 m c2 L s W hm hml (IsStmts.ext hv hW) hfl
 have HMA := hx fun (s : ByteArray) (W : World) (hW : Ext w W) => refMap_any A1 A2 m1 c1 m c2 M s W hm1 (by omega) (IsDefs.ext hd hW)
 have HDN := hx (show ∀ s ∈ namesL M, s.size ≤ 140737488355328 from fun s hs => by
  obtain ⟨d, hdm, rfl⟩ := List.mem_map.1 hs
  exact (defs_ok hd d hdm).name)
 have HFL := hx hfl
 have HM := hx hm
 have HM1 := hx hm1
 have hm1b : m1 ≤ 1000000 := by omega
 have HPC := hx (pchk_rest M L)
 generalize pchk M L = PC at *
 clear hm hm1 hfl
 go_enter Tryz.func43, Tryz.ntmps43
 go_wp2
 rw [← hW0]
 clear hW0
 go_loopw [4, 5] (fun vs i wr => ∃ k : Nat, k ≤ m1 ∧ i = .int .i64 (k : Nat) ∧ OwnS wr (w.heap.size + 1) vs ((M.take k).map (·.name)) ∧ (∀ j, j < k → mapE (M.getD j default) = 0) ∧ RowV wr w.heap.size 25 [.slice A1 m1 c1, .slice A2 m c2] ∧ w.heap.size + 1 ≤ wr.heap.size ∧ Ext w wr) (fun _ i _ => m1 - (RowKit.intOf i).toNat)
 case atStart => exact ⟨0, by omega, rfl, Own.nil _ _ _ _ _, (by intro j hj; omega), rP, by omega, e0⟩
 case round =>
  clear e0 rP hs0
  obtain ⟨k, hk, rfl, os, hn, hr, hsz, he⟩ := hrel
  have HN := hx hn
  clear hn
  have q0 := hr.cell (i := 0) rfl
  obtain ⟨As, cs, rfl⟩ := os.slice
  by_cases hlt : k < m1
  ·obtain ⟨x, hx0⟩ : ∃ x, M[k]? = some x := ⟨_, List.getElem?_eq_getElem (by have := HM1.out; omega)⟩
   have hg : M.getD k default = x := by rw [List.getD_eq_getElem?_getD, hx0]; rfl
   obtain ⟨bx, ox, hAA, ⟨d1, d2, d3, d4⟩, dok⟩ := hd.get hx0
   subst hAA
   have hnm := dok.name
   have D1 := hx d1
   have D2 := hx d2
   have D3 := hx d3
   have D4 := hx d4
   replace d1 := he.cell d1
   have hkm : (k : Int) < (m1 : Int) := by omega
   have htk : (M.take k).map (·.name) ++ [x.name] = (M.take (k + 1)).map (·.name) := by rw [List.take_add_one, hx0]; simp
   have HTK := hx htk
   have hl16 : (((M.take k).map (·.name)).length + 1) * 16 ≤ 140737488355328 := by rw [List.length_map, List.length_take]; omega
   have H16 := hx hl16
   have HVL := hx fun W => ref02_Valid_any x.name W (by omega)
   have HSZ := hx fun W => ref09_Sizes_any x W
   have hmE : mapE (M.getD k default) = if idB x.name then whenN (!sizesB x) 9 else 7 := by rw [hg]; rfl
   have HME := hx hmE
   have HLT := hx hlt
   obtain ⟨nm, ky, vl, en⟩ := x
   dsimp only at *
   generalize (M.take k).map (·.name) = NS at *
   generalize idB nm = IB at *
   generalize sizesB ⟨nm, ky, vl, en⟩ = SB at *
   clear hx0 hg dok hnm htk hl16 hmE hlt d2 d3 d4
   go_wp2_with (at_builtin; refine wp_app1 tyS encS_ok os nm rfl rfl rfl rfl rfl hsz (by decide) H16.out ?_; intro g1 cap1 w2 os2 hg2 hat2 hbg2; have hr2 := hr.keep hg2 (fun e => by have := os.base_le _ e.symm; omega); have he2 := he.grown hg2 (fun k hk => by have := os.base_le k hk; omega); have hsz2 := Nat.le_trans hsz hg2.size; have p0 := hr2.cell (i := 0) rfl; have f1 := he2.cell D1.out; have f2 := he2.cell D2.out; have f3 := he2.cell D3.out; have f4 := he2.cell D4.out)
   rw [HTK.out] at os2
   have OS2 := hx os2
   have R2 := hx hr2
   have E2 := hx he2
   clear os os2 hr hr2 he he2 hg2 q0 d1
   cases IB with
   | false =>
    refine (HVL.out _).mono ?_
    rintro e w3 ⟨rfl, rfl⟩
    have hR := HPC.out.trans (rp0s (by rw [← HM1.out]; exact HLT.out) HN.out (e := 7) HME.out (by decide))
    have HR := hx hR
    clear hR
    go_wp2
    go_ret2
    exact ⟨by rw [HR.out]; rfl, E2.out⟩
   | true =>
    refine (HVL.out _).mono ?_
    rintro e w3 ⟨rfl, rfl⟩
    go_wp2_with fail
    refine (HSZ.out _).mono ?_
    rintro e w4 ⟨rfl, e4⟩
    have E4 := hx (E2.out.trans e4)
    have R4 := hx (R2.out.ext e4)
    have hsz4 := Nat.le_trans hsz2 e4.size
    have O4 := hx (OS2.out.ext e4)
    clear e4 p0 f1 f2 f3 f4
    cases SB with
    | false =>
     have hR := HPC.out.trans (rp0s (by rw [← HM1.out]; exact HLT.out) HN.out (e := 9) HME.out (by decide))
     have HR := hx hR
     clear hR
     go_wp2
     go_ret2
     exact ⟨by rw [HR.out]; rfl, E4.out⟩
    | true =>
     have h0 : mapE (M.getD k default) = 0 := HME.out
     have H0 := hx h0
     clear h0
     go_wp2
     go_roundw
     case rel => exact ⟨k + 1, HLT.out, by go_num, by first | exact O4.out | simpa using O4.out, (fun j hj => (Nat.lt_succ_iff_lt_or_eq.1 hj).elim (HN.out j) (fun h => by rw [h]; exact H0.out)), R4.out, hsz4, E4.out⟩
     case measure => simp [RowKit.intOf]; omega
  ·obtain rfl : m1 = k := by omega
   have hln : ((M.take m1).map (·.name)).length = m1 := by rw [List.length_map, List.length_take, ← HM1.out]; omega
   rw [hln] at os ⊢
   clear hln
   rw [List.take_of_length_le (by rw [← HM1.out]; exact Nat.le_refl _)] at os
   have HR1 := hx (HPC.out.trans (rp0n (L := L) (by rw [← HM1.out]; exact HN.out)))
   have hnl : (M.map (·.name)).length ≤ 1000000 := by rw [List.length_map, ← HM1.out]; exact hm1b
   have hns := os.read HDN.out (by omega)
   have HNL := hx hnl
   have HNS := hx hns
   have q1 := hr.cell (i := 1) rfl
   have he1 := he
   obtain ⟨wq, hwq⟩ : ∃ wq, wq = wr := ⟨_, rfl⟩
   rw [← hwq] at HNS hr he1 hsz q0 q1 ⊢
   clear he hwq
   clear hlt hk HN os hnl hns HPC
   go_wp2
   clear q0 q1
   go_loopw [6] (fun i wr => ∃ k : Nat, k ≤ m ∧ i = .int .i64 (k : Nat) ∧ (∀ j, j < k → stmtE (L.getD j default) = 0) ∧ Ext wq wr) (fun i _ => m - (RowKit.intOf i).toNat)
   case atStart => exact ⟨0, by omega, rfl, (by intro j hj; omega), Ext.refl _⟩
   case round =>
    obtain ⟨k, hk, rfl, hn, he2⟩ := hrel
    have HN := hx hn
    clear hn
    have q1 := (hr.ext he2).cell (i := 1) rfl
    have q0 := (hr.ext he2).cell (i := 0) rfl
    have hew := he1.trans he2
    by_cases hlt : k < m
    ·obtain ⟨x, hx0⟩ : ∃ x, L[k]? = some x := ⟨_, List.getElem?_eq_getElem (by have := HM.out; omega)⟩
     have hg : L.getD k default = x := by rw [List.getD_eq_getElem?_getD, hx0]; rfl
     obtain ⟨b, o, hAA, vl, d0, dl, ⟨d1, d2, d3, d4, d5, d6⟩, dok, ⟨d7, d7'⟩, d8, d8'⟩ := (IsStmts.ext hv hew).get hx0
     subst hAA
     obtain ⟨Al, cl, rfl, -, -, dl'⟩ := dl.form
     have hkm : (k : Int) < (m : Int) := by omega
     have hst := refStmt_any Al cl x _ dl' dok d7' d8'
     have HG := hx (congrArg stmtE hg)
     have HLT := hx hlt
     have HEW := hx hew
     have HE2 := hx he2
     unfold StV at hst
     obtain ⟨labels, ⟨op, reg, n1', n2', n3', n4'⟩, tt, tm⟩ := x
     dsimp only at *
     generalize labels.length = ll at *
     generalize stmtE ⟨labels, ⟨op, reg, n1', n2', n3', n4'⟩, tt, tm⟩ = SE at *
     have HST := hx hst
     clear hst hg hx0 dl dl' dok d7' d8' hew he2 hlt
     go_wp2_with fail
     refine HST.out.mono ?_
     rintro e w3 ⟨rfl, e3⟩
     have Y := hx (HE2.out.trans e3)
     have YW := hx (HEW.out.trans e3)
     clear e3 d0 d1 d2 d3 d4 d5 d6 d7 d8 q0 q1
     by_cases hz : SE = 0
     ·subst hz
      go_wp2
      go_roundw
      case rel => exact ⟨k + 1, HLT.out, by go_num, (fun j hj => (Nat.lt_succ_iff_lt_or_eq.1 hj).elim (HN.out j) (fun h => by rw [h, HG.out])), Y.out⟩
      case measure => simp [RowKit.intOf]; omega
     ·have hz' : (SE != 0) = true := by simpa using hz
      have HR := hx (HR1.out.trans (rp1s (by rw [← HM.out]; exact HLT.out) HN.out HG.out hz))
      clear hz
      go_wp2
      go_ret2
      exact ⟨by rw [HR.out]; rfl, YW.out⟩
    ·obtain rfl : m = k := by omega
     have HR2 := hx (HR1.out.trans (rp1n (M := M) (by rw [← HM.out]; exact HN.out)))
     clear hlt hk HN HR1
     by_cases h255 : 255 < m1
     ·have hb : decide ((m1 : Int) > 255) = true := decide_eq_true (by omega)
      have HR := hx (HR2.out.trans (rp2s (L := L) (by rw [← HM1.out]; exact h255)))
      have HEW := hx hew
      clear h255 he2 hew
      go_wp2
      go_ret2
      exact ⟨by rw [HR.out]; rfl, HEW.out⟩
     ·have hb : decide ((m1 : Int) > 255) = false := decide_eq_false (by omega)
      have HR3 := hx (HR2.out.trans (rp2n (L := L) (by rw [← HM1.out]; exact h255)))
      have HREP := hx (ref02_Repeated_any _ (namesL M) _ HNL.out (IsStrs.ext HNS.out he2))
      have HEW := hx hew
      have HRW := hx (hr.ext he2)
      have hrb := repN_bd (namesL M)
      have hRl : (namesL M).length = m1 := by unfold namesL; rw [List.length_map]; exact HM1.out.symm
      rw [hRl] at hrb
      generalize hRN : repN (namesL M) = RN at *
      have HRN := hx hRN
      clear h255 he2 hew HR2 hRN hRl
      go_wp2_with fail
      refine HREP.out.mono ?_
      rintro e w3 ⟨rfl, e3⟩
      have E3 := hx (HEW.out.trans e3)
      have R3 := hx (HRW.out.ext e3)
      clear e3 q0 q1
      have q0 := R3.out.cell (i := 0) rfl
      have q1 := R3.out.cell (i := 1) rfl
      by_cases hrep : 0 ≤ RN
      ·have hb2 : decide (RN ≥ 0) = true := decide_eq_true hrep
       have HR := hx (HR3.out.trans (rp3s (L := L) (by rw [HRN.out]; exact hrep)))
       rw [HRN.out] at HR
       clear hrep hrb
       go_wp2
       go_ret2
       exact ⟨by rw [HR.out]; rfl, E3.out⟩
      ·have hb2 : decide (RN ≥ 0) = false := decide_eq_false hrep
       have HR4 := hx (HR3.out.trans (rp3n (L := L) (by rw [HRN.out]; exact hrep)))
       clear hrep HR3 hrb
       go_wp2_with fail
       refine (HLB.out _ E3.out).mono ?_
       rintro e w4 ⟨v1, v2, rfl, i1, i2, e4⟩
       obtain ⟨B1, b1, rfl, -, -, i1'⟩ := i1.form
       obtain ⟨B2, b2, rfl, -, -, i2'⟩ := i2.form
       have HREP2 := hx (ref02_Repeated_any _ (flat L) w4 HFL.out i1')
       have hrb := repN_bd (flat L)
       have hfa := flatAt_length L 0
       rw [hfa] at i2' ⊢
       generalize hRN : repN (flat L) = RM at *
       have HRM := hx hRN
       have hflb := HFL.out
       generalize (flat L).length = FL at *
       have HI2 := hx i2'
       have E4 := hx (E3.out.trans e4)
       have R4 := hx (R3.out.ext e4)
       clear i1 i2 i1' i2' e4 q0 q1 hfa hRN
       go_wp2_with fail
       refine HREP2.out.mono ?_
       rintro e w5 ⟨rfl, e5⟩
       have hi5 := IsInts.ext HI2.out e5
       have E5 := hx (E4.out.trans e5)
       have R5 := hx (R4.out.ext e5)
       clear e5
       have q1 := R5.out.cell (i := 1) rfl
       by_cases hrep : 0 ≤ RM
       ·have hb3 : decide (RM ≥ 0) = true := decide_eq_true hrep
        obtain ⟨r, rfl⟩ := Int.eq_ofNat_of_zero_le hrep
        obtain ⟨y, hy⟩ : ∃ y, (flatAt 0 L)[r]? = some y := ⟨_, List.getElem?_eq_getElem (by have := hi5.form; obtain ⟨_, _, h1, _⟩ := this; injection h1 with _ h1; omega)⟩
        obtain ⟨by', oy, rfl, d1, -⟩ := hi5.get hy
        rw [Nat.mul_one] at d1
        have HR := hx (HR4.out.trans (rp4s (M := M) HRM.out))
        have hyd : (flatAt 0 L).getD r 0 = y := by rw [List.getD_eq_getElem?_getD, hy]; rfl
        rw [hyd] at HR
        have hrl : (r : Int) < (FL : Int) := by omega
        clear hrep hi5 hy hyd hrb
        go_wp2
        go_ret2
        exact ⟨by rw [HR.out]; rfl, E5.out⟩
       ·have hb3 : decide (RM ≥ 0) = false := decide_eq_false hrep
        have HR5 := hx (HR4.out.trans (rp4n (M := M) (by rw [HRM.out]; exact hrep)))
        clear hrep HR4 hi5 hrb hflb
        by_cases hm0 : m = 0
        ·have hb4 : ((m : Int) == 0) = true := by simp; omega
         have HR := hx (HR5.out.trans (rp5s (M := M) (by rw [← HM.out]; exact hm0)))
         clear hm0
         go_wp2
         go_ret2
         exact ⟨by rw [HR.out]; rfl, E5.out⟩
        ·have hb4 : ((m : Int) == 0) = false := by simp; omega
         have HR6 := hx (HR5.out.trans (rp5n (M := M) (by rw [← HM.out]; exact hm0)))
         have hm0' : 0 < m := by omega
         have HM0 := hx hm0'
         have xr5 := Ext.refl w5
         clear hm0 HR5 hm0'
         go_wp2
         clear q1
         go_loopw [11] (fun i wr => ∃ k : Nat, k ≤ m ∧ i = .int .i64 (k : Nat) ∧ (∀ j, j < k → undB L (emS :: namesL M) (L.getD j default) = false) ∧ Ext w5 wr) (fun i _ => m - (RowKit.intOf i).toNat)
         case atStart => exact ⟨0, by omega, rfl, (by intro j hj; omega), xr5⟩
         case round =>
          clear xr5
          obtain ⟨k, hk, rfl, hn, he2⟩ := hrel
          have HN := hx hn
          clear hn
          have hew := E5.out.trans he2
          have q1 := (R5.out.ext he2).cell (i := 1) rfl
          by_cases hlt : k < m
          ·obtain ⟨x, hx0⟩ : ∃ x, L[k]? = some x := ⟨_, List.getElem?_eq_getElem (by have := HM.out; omega)⟩
           have hg : L.getD k default = x := by rw [List.getD_eq_getElem?_getD, hx0]; rfl
           obtain ⟨b, o, hAA, vl, d0, dl, ⟨d1, d2, d3, d4, d5, d6⟩, dok, ⟨d7, d7'⟩, d8, d8'⟩ := (IsStmts.ext hv hew).get hx0
           subst hAA
           obtain ⟨Al, cl, rfl, -, -, -⟩ := dl.form
           have hkm : (k : Int) < (m : Int) := by omega
           have hun : undB L (emS :: namesL M) (L.getD k default) = ((neS x.target && !(labAt L x.target).isSome) || !(inL (emS :: namesL M) x.map)) := by rw [hg]; rfl
           have HUN := hx hun
           have HLT := hx hlt
           have eN := Ext.new wr (.cells (stL Al x.labels.length cl x).toArray 55)
           have rS := RowV.new wr (stL Al x.labels.length cl x) 55
           have E6 := hx (hew.trans eN)
           have X6 := hx (he2.trans eN)
           have R6 := hx (R5.out.ext (he2.trans eN))
           obtain ⟨labels, ⟨op, reg, n1', n2', n3', n4'⟩, tt, tm⟩ := x
           simp only [stL] at *
           generalize labels.length = ll at *
           have RS := hx rS
           have p0 := R6.out.cell (i := 0) rfl
           have p1 := R6.out.cell (i := 1) rfl
           clear hun hg hx0 dl dok d7' d8' hlt he2 hew eN rS
           by_cases htt : tt = emS
           ·subst htt
            have u1 := em_list
            have u2 := em_isE
            have HNE := hx (show neS emS = false by simp [neS])
            by_cases hmm : tm = emS
            ·subst hmm
             have u3 := em_list
             have u4 := em_isE
             have hin : inL (emS :: namesL M) emS = true := inL_hit (k := 0) rfl
             have HIN := hx hin
             clear hin
             have hu : undB L (emS :: namesL M) (L.getD k default) = false := by rw [HUN.out]; simp [HNE.out, HIN.out]
             have HU := hx hu
             clear hu
             go_wp2
             go_roundw
             case rel => exact ⟨k + 1, HLT.out, by go_num, (fun j hj => (Nat.lt_succ_iff_lt_or_eq.1 hj).elim (HN.out j) (fun h => by rw [h]; exact HU.out)), X6.out⟩
             case measure => simp [RowKit.intOf]; omega
            ·have u3 := ne_list hmm
             have u4 := ne_isE hmm
             have hin : inL (emS :: namesL M) tm = inL (namesL M) tm := by
              unfold inL
              rw [List.any_cons, decide_eq_false (fun e => hmm e.symm), Bool.false_or]
             have HIN := hx hin
             clear hmm hin
             go_wp2_with fail
             refine (HMA.out tm _ E6.out).mono ?_
             rintro e w7 ⟨rfl, e7⟩
             have E7 := hx (E6.out.trans e7)
             have X7 := hx (X6.out.trans e7)
             clear e7
             by_cases hmx : mapX M tm < 0
             ·have b7 : decide (mapX M tm < 0) = true := decide_eq_true hmx
              have HMX := hx (mapX_in ▸ hmx : inL (namesL M) tm = false)
              clear hmx
              have hu : undB L (emS :: namesL M) (L.getD k default) = true := by rw [HUN.out]; simp [HNE.out, HIN.out, HMX.out]
              have HR := hx (HR6.out.trans (rp6s (by rw [← HM.out]; exact HLT.out) HN.out hu))
              clear hu
              go_wp2
              go_ret2
              exact ⟨by rw [HR.out]; rfl, E7.out⟩
             ·have b7 : decide (mapX M tm < 0) = false := decide_eq_false hmx
              have HMX := hx (show inL (namesL M) tm = true by
               cases h : inL (namesL M) tm with
               | true => rfl
               | false => exact absurd (mapX_in ▸ h : mapX M tm < 0) hmx)
              clear hmx
              have hu : undB L (emS :: namesL M) (L.getD k default) = false := by rw [HUN.out]; simp [HNE.out, HIN.out, HMX.out]
              have HU := hx hu
              clear hu
              go_wp2
              go_roundw
              case rel => exact ⟨k + 1, HLT.out, by go_num, (fun j hj => (Nat.lt_succ_iff_lt_or_eq.1 hj).elim (HN.out j) (fun h => by rw [h]; exact HU.out)), X7.out⟩
              case measure => simp [RowKit.intOf]; omega
           ·have u1 := ne_list htt
            have u2 := ne_isE htt
            have HNE := hx (show neS tt = true by simp [neS, htt])
            clear htt
            go_wp2_with fail
            refine (HLA.out tt _ E6.out).mono ?_
            rintro e w6 ⟨rfl, e6⟩
            have r6 := RS.out.ext e6
            have t8 := r6.cell (i := 8) rfl
            have rp6 := R6.out.ext e6
            have E6b := hx (E6.out.trans e6)
            have X6b := hx (X6.out.trans e6)
            clear d0 d1 d2 d3 d4 d5 d6 d7 d8 p0 p1 q1
            have p0 := rp6.cell (i := 0) rfl
            have p1 := rp6.cell (i := 1) rfl
            clear r6 rp6 e6
            by_cases hlx : labX L tt < 0
            ·have b6 : decide (labX L tt < 0) = true := decide_eq_true hlx
             have HLS := hx (labX_lt L tt ▸ hlx : (labAt L tt).isSome = false)
             clear hlx
             have hu : undB L (emS :: namesL M) (L.getD k default) = true := by rw [HUN.out]; simp [HNE.out, HLS.out]
             have HR := hx (HR6.out.trans (rp6s (by rw [← HM.out]; exact HLT.out) HN.out hu))
             clear hu
             go_wp2
             go_ret2
             exact ⟨by rw [HR.out]; rfl, E6b.out⟩
            ·have b6 : decide (labX L tt < 0) = false := decide_eq_false hlx
             have HLS := hx (show (labAt L tt).isSome = true by
              cases h : (labAt L tt).isSome with
              | true => rfl
              | false => exact absurd (labX_lt L tt ▸ h : labX L tt < 0) hlx)
             clear hlx
             by_cases hmm : tm = emS
             ·subst hmm
              have u3 := em_list
              have u4 := em_isE
              have hin : inL (emS :: namesL M) emS = true := inL_hit (k := 0) rfl
              have HIN := hx hin
              clear hin
              have hu : undB L (emS :: namesL M) (L.getD k default) = false := by rw [HUN.out]; simp [HNE.out, HLS.out, HIN.out]
              have HU := hx hu
              clear hu
              go_wp2
              go_roundw
              case rel => exact ⟨k + 1, HLT.out, by go_num, (fun j hj => (Nat.lt_succ_iff_lt_or_eq.1 hj).elim (HN.out j) (fun h => by rw [h]; exact HU.out)), X6b.out⟩
              case measure => simp [RowKit.intOf]; omega
             ·have u3 := ne_list hmm
              have u4 := ne_isE hmm
              have hin : inL (emS :: namesL M) tm = inL (namesL M) tm := by
               unfold inL
               rw [List.any_cons, decide_eq_false (fun e => hmm e.symm), Bool.false_or]
              have HIN := hx hin
              clear hmm hin
              go_wp2_with fail
              refine (HMA.out tm _ E6b.out).mono ?_
              rintro e w7 ⟨rfl, e7⟩
              have E7 := hx (E6b.out.trans e7)
              have X7 := hx (X6b.out.trans e7)
              clear e7
              by_cases hmx : mapX M tm < 0
              ·have b7 : decide (mapX M tm < 0) = true := decide_eq_true hmx
               have HMX := hx (mapX_in ▸ hmx : inL (namesL M) tm = false)
               clear hmx
               have hu : undB L (emS :: namesL M) (L.getD k default) = true := by rw [HUN.out]; simp [HNE.out, HLS.out, HIN.out, HMX.out]
               have HR := hx (HR6.out.trans (rp6s (by rw [← HM.out]; exact HLT.out) HN.out hu))
               clear hu
               go_wp2
               go_ret2
               exact ⟨by rw [HR.out]; rfl, E7.out⟩
              ·have b7 : decide (mapX M tm < 0) = false := decide_eq_false hmx
               have HMX := hx (show inL (namesL M) tm = true by
                cases h : inL (namesL M) tm with
                | true => rfl
                | false => exact absurd (mapX_in ▸ h : mapX M tm < 0) hmx)
               clear hmx
               have hu : undB L (emS :: namesL M) (L.getD k default) = false := by rw [HUN.out]; simp [HNE.out, HLS.out, HIN.out, HMX.out]
               have HU := hx hu
               clear hu
               go_wp2
               go_roundw
               case rel => exact ⟨k + 1, HLT.out, by go_num, (fun j hj => (Nat.lt_succ_iff_lt_or_eq.1 hj).elim (HN.out j) (fun h => by rw [h]; exact HU.out)), X7.out⟩
               case measure => simp [RowKit.intOf]; omega
          ·obtain rfl : m = k := by omega
           have HR7 := hx (HR6.out.trans (rp6n (M := M) (by rw [← HM.out]; exact HN.out)))
           have X3 := hx he2
           clear hlt hk HN HR6 he2 hew
           go_wp2
           clear q1
           go_loopw [13] (fun i wr => ∃ k : Nat, k ≤ m ∧ i = .int .i64 (k : Nat) ∧ (∀ j, j < k → (writesX (L.getD j default).ins == 10) = false) ∧ Ext w5 wr) (fun i _ => m - (RowKit.intOf i).toNat)
           case atStart => exact ⟨0, by omega, rfl, (by intro j hj; omega), X3.out⟩
           case round =>
            obtain ⟨k, hk, rfl, hn, he2⟩ := hrel
            have HN := hx hn
            clear hn
            have hew := E5.out.trans he2
            have q1 := (R5.out.ext he2).cell (i := 1) rfl
            by_cases hlt : k < m
            ·obtain ⟨x, hx0⟩ : ∃ x, L[k]? = some x := ⟨_, List.getElem?_eq_getElem (by have := HM.out; omega)⟩
             have hg : L.getD k default = x := by rw [List.getD_eq_getElem?_getD, hx0]; rfl
             obtain ⟨b, o, hAA, vl, d0, dl, ⟨d1, d2, d3, d4, d5, d6⟩, dok, -, -, -⟩ := (IsStmts.ext hv hew).get hx0
             subst hAA
             have hkm : (k : Int) < (m : Int) := by omega
             have HJ := hx (ref04Writes_any x.ins wr dok)
             have hwx : (writesX (L.getD k default).ins == 10) = (writesX x.ins == 10) := by rw [hg]
             have HWX := hx hwx
             have HLT := hx hlt
             have HEW := hx hew
             have HE2 := hx he2
             obtain ⟨labels, ⟨op, reg, n1', n2', n3', n4'⟩, tt, tm⟩ := x
             unfold Ins.v at HJ
             dsimp only at *
             generalize writesX ⟨op, reg, n1', n2', n3', n4'⟩ = WX at *
             clear hwx hg hx0 dl dok hlt he2 hew d0
             go_wp2_with fail
             refine HJ.out.mono ?_
             rintro e w6 ⟨rfl, e6⟩
             have Y := hx (HE2.out.trans e6)
             have YW := hx (HEW.out.trans e6)
             clear e6 d1 d2 d3 d4 d5 d6 q1
             by_cases hw : WX = 10
             ·subst hw
              have HR := hx (HR7.out.trans (rp7s (M := M) (by rw [← HM.out]; exact HLT.out) HN.out HWX.out))
              go_wp2
              go_ret2
              exact ⟨by rw [HR.out]; rfl, YW.out⟩
             ·have hwb : (WX == 10) = false := by simpa using hw
              have HWB := hx (HWX.out.trans hwb)
              clear hw
              go_wp2
              go_roundw
              case rel => exact ⟨k + 1, HLT.out, by go_num, (fun j hj => (Nat.lt_succ_iff_lt_or_eq.1 hj).elim (HN.out j) (fun h => by rw [h]; exact HWB.out)), Y.out⟩
              case measure => simp [RowKit.intOf]; omega
            ·obtain rfl : m = k := by omega
             have HR8 := hx (HR7.out.trans (rp7n (M := M) (by rw [← HM.out]; exact HN.out)))
             have hm0 := HM0.out
             obtain ⟨i, hi⟩ : ∃ i, m = i + 1 := ⟨m - 1, by omega⟩
             have hkl : L.length = i + 1 := by rw [← hi]; exact HM.out.symm
             obtain ⟨x, hx0⟩ : ∃ x, L[i]? = some x := ⟨_, List.getElem?_eq_getElem (by omega)⟩
             have hg : L.getD i default = x := by rw [List.getD_eq_getElem?_getD, hx0]; rfl
             obtain ⟨b, o, hAA, vl, d0, dl, ⟨d1, d2, d3, d4, d5, d6⟩, dok, -, -, -⟩ := (IsStmts.ext hv hew).get hx0
             subst hAA
             have hw1 : wrap64 (i : Int) = (i : Int) := by unfold wrap64; omega
             have hk1 : (m : Int) - 1 = (i : Int) := by omega
             have hkm : (i : Int) < (m : Int) := by omega
             have hF := refForm_any x.ins.op wr dok.op
             rw [← formN_eq] at hF
             have hex : endsX (L.getD i default).ins = decide (formN x.ins.op = 3 ∨ formN x.ins.op = 6) := by rw [hg]; rfl
             have HEX := hx hex
             have HKL := hx hkl
             have HEW := hx hew
             obtain ⟨labels, ⟨op, reg, n1', n2', n3', n4'⟩, tt, tm⟩ := x
             dsimp only at *
             generalize formN op = F at *
             have HF := hx hF
             clear hF hex hkl hi hx0 hg dl dok hlt hk HN HR7 he2 hew hm0 d0 d2 d3 d4 d5 d6 hm1l hml hm1b
             by_cases h3 : F = 3
             ·subst h3
              have HR := hx (HR8.out.trans (rp8n (M := M) HKL.out (by rw [HEX.out]; rfl)))
              go_wp2_with fail
              refine HF.out.mono ?_
              rintro e w6 ⟨rfl, rfl⟩
              go_wp2
              go_ret2
              exact ⟨by rw [HR.out]; rfl, HEW.out⟩
             ·have h3b : (F != 3) = true := by simpa using h3
              by_cases h6 : F = 6
              ·subst h6
               have HR := hx (HR8.out.trans (rp8n (M := M) HKL.out (by rw [HEX.out]; rfl)))
               clear h3 h3b
               go_wp2_with fail
               refine HF.out.mono ?_
               rintro e w6 ⟨rfl, rfl⟩
               go_wp2
               go_ret2
               exact ⟨by rw [HR.out]; rfl, HEW.out⟩
              ·have h6b : (F != 6) = true := by simpa using h6
               have HR := hx (HR8.out.trans (rp8s (M := M) HKL.out (by rw [HEX.out]; exact decide_eq_false (by omega))))
               clear h3 h6
               go_wp2_with fail
               refine HF.out.mono ?_
               rintro e w6 ⟨rfl, rfl⟩
               go_wp2
               go_ret2
               exact ⟨by rw [HR.out]; rfl, HEW.out⟩
end Go.Proofs.YtmofdnlefjfcfaaGreatDoor


set_option linter.unusedVariables false
set_option linter.unusedSimpArgs false
namespace Go.Proofs.YtmofdnlefjfcfaaGreatDoor
open Go.RowKit Go.Lib

/-- The instructions of statements. -/
def codeL (L : List Stmt) : List Ins := L.map (·.ins)
theorem codeL_length (L : List Stmt) : (codeL L).length = L.length := by simp [codeL]
theorem codeL_get {L : List Stmt} {k : Nat} {x : Stmt} (h : L[k]? = some x) : (codeL L)[k]? = some x.ins := by simp [codeL, h]
theorem stmts_ok {w : World} {v : Value} {L : List Stmt} (h : IsStmts w v L) : ∀ x ∈ codeL L, x.Ok := by
 intro x hx
 obtain ⟨s, hs, rfl⟩ := List.mem_map.1 hx
 exact Sl.all (p := fun s : Stmt => s.ins.Ok) h (fun b o x k => by obtain ⟨_, _, _, _, h5, _⟩ := k; exact h5) s hs
set_option maxRecDepth 40000 in
set_option maxHeartbeats 4000000 in
theorem refCode12_any (A1 A2 : Option Addr) (n1 c1 m c2 : Nat) (L : List Stmt) (w : World) (hm : m = L.length) (hml : m ≤ 1000000) (hv : IsStmts w (.slice A2 m c2) L) :
  Calls Tryz.prog 44 #[.agg #[.slice A1 n1 c1, .slice A2 m c2]] w fun e w' => ∃ v', e = .returned v' ∧ IsIns w' v' (codeL L) ∧ Ext w w' := by
 obtain ⟨W0, hW0⟩ : ∃ W0, W0 = w.alloc (.cells #[.slice A1 n1 c1, .slice A2 m c2] 25) := ⟨_, rfl⟩
 have e0 : Ext w W0 := by rw [hW0]; exact Ext.new w _
 have rP : RowV W0 w.heap.size 25 [.slice A1 n1 c1, .slice A2 m c2] := by rw [hW0]; exact RowV.new _ _ _
 have hs0 : W0.heap.size = w.heap.size + 1 := by rw [hW0]; simp
 have HM := hx hm
 have HOK := hx (stmts_ok hv)
 clear hm
 go_enter Tryz.func44, Tryz.ntmps44
 go_wp2
 rw [← hW0]
 clear hW0
 go_loopw [3, 4] (fun vo i wr => ∃ k : Nat, k ≤ m ∧ i = .int .i64 (k : Nat) ∧ OwnN wr (w.heap.size + 1) vo (codeL (L.take k)) ∧ RowV wr w.heap.size 25 [.slice A1 n1 c1, .slice A2 m c2] ∧ w.heap.size + 1 ≤ wr.heap.size ∧ Ext w wr) (fun _ i _ => m - (RowKit.intOf i).toNat)
 case atStart => exact ⟨0, by omega, rfl, Own.nil _ _ _ _ _, rP, by omega, e0⟩
 case round =>
  clear e0 rP hs0
  obtain ⟨k, hk, rfl, os, hr, hsz, he⟩ := hrel
  have q1 := hr.cell (i := 1) rfl
  obtain ⟨As, cs, rfl⟩ := os.slice
  by_cases hlt : k < m
  ·obtain ⟨x, hx0⟩ : ∃ x, L[k]? = some x := ⟨_, List.getElem?_eq_getElem (by have := HM.out; omega)⟩
   obtain ⟨b, o, hAA, vl, d0, dl, ⟨d1, d2, d3, d4, d5, d6⟩, dok, -, -, -⟩ := (IsStmts.ext hv he).get hx0
   subst hAA
   have hkm : (k : Int) < (m : Int) := by omega
   have htk : codeL (L.take k) ++ [x.ins] = codeL (L.take (k + 1)) := by unfold codeL; rw [List.take_add_one, hx0]; simp
   have HTK := hx htk
   have hl48 : ((codeL (L.take k)).length + 1) * 48 ≤ 140737488355328 := by rw [codeL_length, List.length_take]; omega
   have H48 := hx hl48
   have HLT := hx hlt
   obtain ⟨labels, ⟨op, reg, n1', n2', n3', n4'⟩, tt, tm⟩ := x
   dsimp only at *
   generalize codeL (L.take k) = NS at *
   clear hx0 htk hl48 hlt dl dok
   go_wp2_with (at_builtin; refine wp_app1 tyN encN_ok os ⟨op, reg, n1', n2', n3', n4'⟩ rfl rfl rfl rfl rfl hsz (by decide) H48.out ?_; intro g1 cap1 w2 os2 hg2 hat2 hbg2)
   have hr2 := hr.keep hg2 (fun e => by have := os.base_le _ e.symm; omega)
   have he2 := he.grown hg2 (fun k hk => by have := os.base_le k hk; omega)
   have hsz2 := Nat.le_trans hsz hg2.size
   rw [HTK.out] at os2
   clear os hr he hg2 hsz q1 d0 d1 d2 d3 d4 d5 d6
   go_wp2
   go_roundw
   case rel => exact ⟨k + 1, HLT.out, by go_num, by first | exact os2 | simpa using os2, hr2, hsz2, he2⟩
   case measure => simp [RowKit.intOf]; omega
  ·obtain rfl : m = k := by omega
   rw [List.take_of_length_le (by rw [← HM.out]; exact Nat.le_refl _)] at os ⊢
   have HOS := hx os
   clear os
   go_wp2
   go_ret
   refine ⟨_, rfl, ?_, he⟩
   have h := HOS.out.read encN_ok (E := EIns) (by rw [codeL_length, ← HM.out]; omega) fun x hx b o h => ⟨⟨by simpa using h 0 _ rfl, h 1 _ rfl, h 2 _ rfl, h 3 _ rfl, h 4 _ rfl, h 5 _ rfl⟩, HOK.out x hx⟩
   exact h
/-- The references of a statement: the slot and the map. -/
def refR (M : List Def) (L : List Stmt) (i : Nat) : List Rel := if formN (L.getD i default).ins.op = 11 ∧ 0 ≤ mapX M (L.getD i default).map then [⟨slotsT ((codeL L).take i), mapX M (L.getD i default).map⟩] else []
def refsOf (M : List Def) (L : List Stmt) (k : Nat) : List Rel := (List.range k).flatMap (refR M L)
theorem refsOf_succ (M : List Def) (L : List Stmt) (k : Nat) : refsOf M L (k + 1) = refsOf M L k ++ refR M L k := by simp [refsOf, List.range_succ]
theorem refR_len (M : List Def) (L : List Stmt) (i : Nat) : (refR M L i).length ≤ 1 := by unfold refR; split <;> simp
theorem refsOf_len (M : List Def) (L : List Stmt) (k : Nat) : (refsOf M L k).length ≤ k := by
 induction k with
 | zero => simp [refsOf]
 | succ k ih => rw [refsOf_succ, List.length_append]; have := refR_len M L k; omega
theorem mapX_bd (M : List Def) (s : ByteArray) : -1 ≤ mapX M s ∧ mapX M s < (M.length : Int) + 1 := by
 unfold mapX
 cases h : ((List.range M.length).findSome? fun i => if (M.getD i default).name = s then some (i : Int) else none) with
 | none => simp; omega
 | some r =>
  obtain ⟨k, hk, hr⟩ := List.exists_of_findSome?_eq_some h
  have hk' : k < M.length := by simpa using hk
  split at hr
  ·injection hr with hr; subst hr; simp; omega
  ·cases hr
theorem refsOf_ok (M : List Def) (L : List Stmt) (k : Nat) (hM : M.length ≤ 1000000) (hL : L.length ≤ 1000000) : ∀ x ∈ refsOf M L k, x.Ok := by
 intro x hx
 unfold refsOf at hx
 obtain ⟨i, _, hi⟩ := List.mem_flatMap.1 hx
 unfold refR at hi
 split at hi
 ·obtain rfl := List.mem_singleton.1 hi
  have h1 := slotsT_bd ((codeL L).take i)
  have h2 := mapX_bd M (L.getD i default).map
  have h3 : ((codeL L).take i).length ≤ L.length := by rw [List.length_take, codeL_length]; omega
  exact ⟨by unfold I64; dsimp only; omega, by unfold I64; dsimp only; omega⟩
 ·cases hi
set_option maxRecDepth 40000 in
set_option maxHeartbeats 8000000 in
theorem refRefs_any (A1 A2 : Option Addr) (m1 c1 m c2 : Nat) (M : List Def) (L : List Stmt) (w : World) (hm1 : m1 = M.length) (hm1l : m1 ≤ 1000000) (hm : m = L.length) (hml : m ≤ 1000000) (hd : IsDefs w (.slice A1 m1 c1) M) (hv : IsStmts w (.slice A2 m c2) L) :
  Calls Tryz.prog 20 #[.agg #[.slice A1 m1 c1, .slice A2 m c2]] w fun e w' => ∃ v', e = .returned v' ∧ IsRels w' v' (refsOf M L m) ∧ Ext w w' := by
 obtain ⟨W0, hW0⟩ : ∃ W0, W0 = w.alloc (.cells #[.slice A1 m1 c1, .slice A2 m c2] 25) := ⟨_, rfl⟩
 have e0 : Ext w W0 := by rw [hW0]; exact Ext.new w _
 have rP : RowV W0 w.heap.size 25 [.slice A1 m1 c1, .slice A2 m c2] := by rw [hW0]; exact RowV.new _ _ _
 have hs0 : W0.heap.size = w.heap.size + 1 := by rw [hW0]; simp
 have hCD := refCode12_any A1 A2 m1 c1 m c2 L W0 hm hml (IsStmts.ext hv e0)
 have HMA := hx fun (s : ByteArray) (W : World) (hW : Ext w W) => refMap_any A1 A2 m1 c1 m c2 M s W hm1 hm1l (IsDefs.ext hd hW)
 have HRO := hx (refsOf_ok M L m (by omega) (by omega))
 rw [hW0] at hCD
 have HCD := hx hCD
 have HW0 := hx hW0
 have HM := hx hm
 have hcl : (codeL L).length = m := by rw [codeL_length, hm]
 have HCL := hx hcl
 clear hm hm1 hCD hW0 hcl
 go_enter Tryz.func20, Tryz.ntmps20
 go_wp2_with fail
 refine HCD.out.mono ?_
 rintro e w1 ⟨v1, rfl, i1, e1⟩
 rw [← HW0.out] at e1
 obtain ⟨B1, b1, rfl, -, -, i1'⟩ := i1.form
 rw [HCL.out] at i1'
 try rw [HCL.out]
 have r1 := rP.ext e1
 have E1 := e0.trans e1
 have hs1 : w.heap.size + 1 ≤ w1.heap.size := by rw [← hs0]; exact e1.size
 have HST := hx fun (k : Nat) (hk : k ≤ m) (W : World) (hi : IsIns W (.slice B1 m b1) (codeL L)) => refStart_any _ (codeL L) k W hi (by rw [HCL.out]; exact hml) (by rw [HCL.out]; exact hk)
 clear HCD HW0 e0 e1 rP i1 hs0
 go_wp2
 go_loopw [3, 5] (fun vo i wr => ∃ k : Nat, k ≤ m ∧ i = .int .i64 (k : Nat) ∧ OwnR wr w1.heap.size vo (refsOf M L k) ∧ Ext w1 wr) (fun _ i _ => m - (RowKit.intOf i).toNat)
 case atStart => exact ⟨0, by omega, rfl, Own.nil _ _ _ _ _, Ext.refl _⟩
 case round =>
  clear hs1
  obtain ⟨k, hk, rfl, os, he1⟩ := hrel
  have hr := r1.ext he1
  have he := E1.trans he1
  have hin := IsIns.ext i1' he1
  have hsz := he1.size
  have HE1 := hx he1
  obtain ⟨As, cs, rfl⟩ := os.slice
  by_cases hlt : k < m
  ·obtain ⟨x, hx0⟩ : ∃ x, L[k]? = some x := ⟨_, List.getElem?_eq_getElem (by have := HM.out; omega)⟩
   have hg : L.getD k default = x := by rw [List.getD_eq_getElem?_getD, hx0]; rfl
   obtain ⟨b, o, hAA, vl, d0, dl, ⟨d1, d2, d3, d4, d5, d6⟩, dok, -, d8, d8'⟩ := (IsStmts.ext hv he).get hx0
   subst hAA
   obtain ⟨b', o', hBB, hE⟩ := hin.get (codeL_get hx0)
   subst hBB
   obtain ⟨⟨z0, -⟩, -⟩ := hE
   have hkm : (k : Int) < (m : Int) := by omega
   have q0 := hr.cell (i := 0) rfl
   have q1 := hr.cell (i := 1) rfl
   have hF := refForm_any x.ins.op
   have hrs : refsOf M L (k + 1) = refsOf M L k ++ (if formN x.ins.op = 11 ∧ 0 ≤ mapX M x.map then [⟨slotsT ((codeL L).take k), mapX M x.map⟩] else []) := by rw [refsOf_succ]; unfold refR; rw [hg]
   have HRS := hx hrs
   have hl16 : ((refsOf M L k).length + 1) * 16 ≤ 140737488355328 := by have := refsOf_len M L k; omega
   have H16 := hx hl16
   have HLT := hx hlt
   have HOP := hx dok.op
   have HE := hx he
   have HR := hx hr
   have HIN := hx hin
   have OS := hx os
   have D8 := hx d8
   obtain ⟨labels, ⟨op, reg, n1', n2', n3', n4'⟩, tt, tm⟩ := x
   dsimp only at *
   generalize refsOf M L k = RS at *
   clear hrs hl16 hlt hx0 hg dl dok d8' d0 d1 d2 d3 d4 d5 d6 os
   go_upto_region 6 with fail
   have L5 := hx fun (W : World) (h : Ext wr W) => And.intro ((HR.out.ext h).cell (i := 0) rfl) (And.intro ((HR.out.ext h).cell (i := 1) rfl) (h.cell D8.out))
   have hd2 : Ext wr wr.drew := (Ext.refl wr).drew
   have hr0 : Ext wr wr := Ext.refl wr
   go_cut [6] (fun s6 wx => s6 = .int .i64 (mapX M tm) ∧ Ext wr wx)
   case first =>
    go_region_held3 (fun w' => w'.cell? ⟨w.heap.size, 0, none⟩ = some (.slice A1 m1 c1) ∧ w'.cell? ⟨w.heap.size, 1, none⟩ = some (.slice (some ⟨b, o, none⟩) m c2) ∧ w'.cell? ⟨b, o + k * 9 + 8, none⟩ = some (.string tm)) (exact L5.out _ (by assumption))
     (first
      | (go_at_call 49; refine (HMA.out tm _ (HE.out.trans (by assumption))).mono ?_; rintro e wA ⟨rfl, eA⟩; have fA : Ext wr wA := Ext.trans (by assumption) eA))
    all_goals
     go_wp2
     go_meet
     exact ⟨rfl, by assumption⟩
   case rest =>
    obtain ⟨rfl, x6⟩ := hcut
    have hin6 := IsIns.ext HIN.out x6
    have z6 := x6.cell z0
    have os6 := OS.out.ext x6
    have hr6 := HR.out.ext x6
    have he6 := HE1.out.trans x6
    have hsz6 := Nat.le_trans hsz x6.size
    have hFF := fun W => refForm_any op W HOP.out
    simp only [← formN_eq] at hFF
    have HFF := hx hFF
    have HSW := hx (HST.out k (by have := HLT.out; omega) _ hin6)
    have X6 := hx x6
    clear L5 hd2 hr0 x6 q0 q1 z0 hF hFF hsz
    obtain ⟨mx, hmx⟩ : ∃ mx, mx = mapX M tm := ⟨_, rfl⟩
    rw [← hmx] at HRS ⊢
    have HMX := hx hmx
    clear hmx
    generalize formN op = F at *
    by_cases h11 : F = 11
    ·subst h11
     by_cases hmn : 0 ≤ mx
     ·have hb : decide (mx ≥ 0) = true := decide_eq_true hmn
      have HR1 := hx (HRS.out.trans (by rw [if_pos ⟨rfl, hmn⟩]))
      have HE6 := hx he6
      have HI6 := hx hin6
      have HR6 := hx hr6
      clear hmn he6 hin6 hr6
      go_wp2_with fail
      refine (HFF.out _).mono ?_
      rintro e w7 ⟨rfl, rfl⟩
      go_wp2_with fail
      refine HSW.out.mono ?_
      rintro e w7 ⟨rfl, rfl⟩
      go_wp2_with (at_builtin; refine wp_app1 tyR encR_ok os6 ⟨slotsT ((codeL L).take k), mx⟩ rfl rfl rfl rfl rfl hsz6 (by decide) H16.out ?_; intro g1 cap1 w8 os8 hg2 hat2 hbg2)
      have he8 := HE6.out.grown hg2 (fun k hk => os6.base_le k hk)
      clear os6 hg2
      go_wp2
      go_roundw
      case rel => exact ⟨k + 1, HLT.out, by go_num, by rw [← HR1.out] at os8; exact os8, he8⟩
      case measure => simp [RowKit.intOf]; omega
     ·have hb : decide (mx ≥ 0) = false := decide_eq_false hmn
      have HR1 := hx (HRS.out.trans (by rw [if_neg (fun h => hmn h.2), List.append_nil]))
      have OS6 := hx os6
      have HR6 := hx hr6
      have HE6 := hx he6
      have HI6 := hx hin6
      clear hmn os6 hr6 he6 hin6
      go_wp2_with fail
      refine (HFF.out _).mono ?_
      rintro e w7 ⟨rfl, rfl⟩
      go_wp2
      go_roundw
      case rel => exact ⟨k + 1, HLT.out, by go_num, by rw [HR1.out]; exact OS6.out, HE6.out⟩
      case measure => simp [RowKit.intOf]; omega
    ·have hb : (F == 11) = false := by simpa using h11
     have HR1 := hx (HRS.out.trans (by rw [if_neg (fun h => h11 h.1), List.append_nil]))
     have OS6 := hx os6
     have HR6 := hx hr6
     have HE6 := hx he6
     have HI6 := hx hin6
     clear h11 os6 hr6 he6 hin6
     go_wp2_with fail
     refine (HFF.out _).mono ?_
     rintro e w7 ⟨rfl, rfl⟩
     go_wp2
     go_roundw
     case rel => exact ⟨k + 1, HLT.out, by go_num, by rw [HR1.out]; exact OS6.out, HE6.out⟩
     case measure => simp [RowKit.intOf]; omega
  ·obtain rfl : m = k := by omega
   have OS := hx os
   have HE := hx he
   clear os hr hin he1
   go_wp2
   go_ret
   exact ⟨_, rfl, OS.out.read encR_ok (E := ERel) (by have := refsOf_len M L m; omega) fun x hx b o h => ⟨⟨by simpa using h 0 _ rfl, h 1 _ rfl⟩, HRO.out x hx⟩, HE.out⟩
end Go.Proofs.YtmofdnlefjfcfaaGreatDoor
