/- The layer asm, the reference: Resolve. -/
import Derived.Test.YtmofdnlefjfcfaaGreatDoorJOwnSt
import Derived.Deep.RegionWith
import Derived.Deep.DeepCutAuto
import Derived.Test.YtmofdnlefjfcfaaGreatDoorJJoinR
import Derived.Test.YtmofdnlefjfcfaaGreatDoorJSlot
import Derived.Deep.RegionHeld3
set_option linter.unusedVariables false
set_option linter.unusedSimpArgs false
namespace Go.Proofs.YtmofdnlefjfcfaaGreatDoor
open Go.RowKit Go.Lib

theorem resX_ok {L : List Stmt} {m : Nat} (h : ∀ x ∈ codeL L, x.Ok) (hm : m = L.length) (hl : m ≤ 1000000) : ∀ x ∈ (List.range m).map (resX L), x.Ok := by
 intro x hx
 obtain ⟨k, hk, rfl⟩ := List.mem_map.1 hx
 have hk' : k < L.length := by rw [← hm]; simpa using hk
 have hg : L[k]? = some (L.getD k default) := by rw [List.getD_eq_getElem?_getD, List.getElem?_eq_getElem hk']; rfl
 have ho := h _ (List.mem_of_getElem? (codeL_get hg))
 unfold resX
 split
 ·have h1 := slotsT_bd ((codeL L).take (labX L (L.getD k default).target).toNat)
  have h2 := slotsT_bd ((codeL L).take (k + 1))
  have h3 : ((codeL L).take (labX L (L.getD k default).target).toNat).length ≤ L.length := by rw [List.length_take, codeL_length]; omega
  have h4 : ((codeL L).take (k + 1)).length ≤ L.length := by rw [List.length_take, codeL_length]; omega
  exact ⟨ho.op, ho.dst, ho.src, by unfold I64 disI; dsimp only; omega, ho.imm⟩
 ·exact ho
set_option maxRecDepth 40000 in
set_option maxHeartbeats 16000000 in
theorem refResolve_any (A1 A2 : Option Addr) (m1 c1 m c2 : Nat) (M : List Def) (L : List Stmt) (w : World) (hm1 : m1 = M.length) (hm1l : m1 ≤ 100000) (hm : m = L.length) (hml : m ≤ 1000000) (hd : IsDefs w (.slice A1 m1 c1) M) (hv : IsStmts w (.slice A2 m c2) L) (hfl : (flat L).length ≤ 1000000) :
  Calls Tryz.prog 16 #[.agg #[.slice A1 m1 c1, .slice A2 m c2]] w fun e w' => ∃ v', e = .returned (.tuple #[v', .int .i64 (resE M L).1, .int .i64 (resE M L).2]) ∧ IsIns w' v' (resO M L) ∧ Ext w w' := by
 obtain ⟨W0, hW0⟩ : ∃ W0, W0 = w.alloc (.cells #[.slice A1 m1 c1, .slice A2 m c2] 25) := ⟨_, rfl⟩
 have e0 : Ext w W0 := by rw [hW0]; exact Ext.new w _
 have rP : RowV W0 w.heap.size 25 [.slice A1 m1 c1, .slice A2 m c2] := by rw [hW0]; exact RowV.new _ _ _
 have hCK := refCheck10_any A1 A2 m1 c1 m c2 M L W0 hm1 hm1l hm hml (IsDefs.ext hd e0) (IsStmts.ext hv e0) hfl
 have HCD := hx fun (W : World) (hW : Ext w W) => refCode12_any A1 A2 m1 c1 m c2 L W hm hml (IsStmts.ext hv hW)
 have HLA := hx fun (s : ByteArray) (W : World) (hW : Ext w W) => refLabel_any A1 A2 m1 c1 m c2 L s W hm hml (IsStmts.ext hv hW) hfl
 have HRSO := hx (resX_ok (m := m) (stmts_ok hv) (by omega) (by omega))
 have hcl : (codeL L).length = m := by rw [codeL_length, hm]
 have HCL := hx hcl
 have HM := hx hm
 rw [hW0] at hCK
 have HCK := hx hCK
 have HW0 := hx hW0
 have HRE := hx (show ∀ h : (pchk M L).2 ≠ 0, resE M L = pchk M L from fun h => resE_chk h)
 have HRS := hx (show ∀ (h : (pchk M L).2 = 0) (i : Int), fstB (szBad L) L.length = some i → resE M L = (i, 16) from fun h i h2 => resE_size h h2)
 have HRF := hx (show ∀ (h : (pchk M L).2 = 0) (i : Int), fstB (szBad L) L.length = none → fstB (farBad L) L.length = some i → resE M L = (i, 13) from fun h i h2 h3 => resE_far h h2 h3)
 have HRK := hx (show ∀ (h : (pchk M L).2 = 0), fstB (szBad L) L.length = none → fstB (farBad L) L.length = none → resE M L = (0, 0) from fun h h2 h3 => resE_ok h h2 h3)
 have HLI := hx (show ∀ (h : (pchk M L).2 = 0) (j : Nat), j < L.length → neS (L.getD j default).target = true → 0 ≤ labX L (L.getD j default).target ∧ labX L (L.getD j default).target < L.length from fun h j hj hne => lab_in h hj hne)
 have HRO := hx (show resO M L = if (resE M L).2 = 0 then resL L else [] from rfl)
 generalize resO M L = RO at *
 generalize resE M L = RE at *
 generalize pchk M L = PC at *
 clear hm hm1 hfl hcl hCK hW0
 obtain ⟨pa, pe⟩ := PC
 dsimp only at *
 by_cases hz : pe = 0
 ·subst hz
  have HRS2 := hx (HRS.out rfl)
  have HRF2 := hx (HRF.out rfl)
  have HRK2 := hx (HRK.out rfl)
  have HLI2 := hx (HLI.out rfl)
  clear HRE HRS HRF HRK HLI
  go_enter Tryz.func16, Tryz.ntmps16
  go_wp2_with fail
  refine HCK.out.mono ?_
  rintro e w1 ⟨rfl, e1⟩
  rw [← HW0.out] at e1
  have r1 := rP.ext e1
  have q0 := r1.cell (i := 0) rfl
  have q1 := r1.cell (i := 1) rfl
  have E1 := e0.trans e1
  clear HCK HW0 rP e0 e1
  go_wp2_with fail
  refine (HCD.out _ E1).mono ?_
  rintro e w2 ⟨v2, rfl, i2, e2⟩
  obtain ⟨B2, b2, rfl, -, -, i2'⟩ := i2.form
  rw [HCL.out] at i2'
  try rw [HCL.out]
  have r2 := r1.ext e2
  have E2 := E1.trans e2
  have HST := hx fun (k : Nat) (hk : k ≤ m) (W : World) (hi : IsIns W (.slice B2 m b2) (codeL L)) => refStart_any _ (codeL L) k W hi (by rw [HCL.out]; exact hml) (by rw [HCL.out]; exact hk)
  clear HCD i2 e2 E1 r1 q0 q1
  go_wp2
  go_loop [8, 9] (fun n i => ∃ k : Nat, k ≤ m ∧ i = .int .i64 (k : Nat) ∧ n = .int .i64 (slotsT ((codeL L).take k)) ∧ (∀ j, j < k → szBad L j = false)) (fun _ i => m - (RowKit.intOf i).toNat)
  case atStart => exact ⟨0, by omega, rfl, rfl, (by intro j hj; omega)⟩
  case round =>
   obtain ⟨k, hk, rfl, rfl, hn⟩ := hrel
   have HN := hx hn
   clear hn
   by_cases hlt : k < m
   ·obtain ⟨x, hx0⟩ : ∃ x, (codeL L)[k]? = some x := ⟨_, List.getElem?_eq_getElem (by rw [HCL.out]; exact hlt)⟩
    obtain ⟨b', o', hBB, hE⟩ := i2'.get hx0
    subst hBB
    obtain ⟨⟨z0, -⟩, hok⟩ := hE
    have hkm : (k : Int) < (m : Int) := by omega
    have hsx := slotsT_take hx0
    have hbd := slotsT_bd ((codeL L).take (k + 1))
    have hll : ((codeL L).take (k + 1)).length ≤ k + 1 := by rw [List.length_take]; omega
    have hwr : wrap64 (slotsT ((codeL L).take k) + slotsN x.op) = slotsT ((codeL L).take (k + 1)) := by rw [← hsx]; unfold wrap64; omega
    have HSL := hx fun W => ref04Slots_any x.op W hok.op
    have hsb : szBad L k = decide (65535 < slotsT ((codeL L).take (k + 1))) := rfl
    have HSB := hx hsb
    have HWR := hx hwr
    have HLT := hx hlt
    generalize hT2 : slotsT ((codeL L).take (k + 1)) = T2 at *
    have HT2 := hx hT2
    clear hT2
    generalize slotsT ((codeL L).take k) = T1 at *
    generalize slotsN x.op = sx at *
    clear hsx hbd hll hx0 hok hlt hsb
    by_cases hbig : T2 > 65535
    ·have hb : decide (T2 > 65535) = true := decide_eq_true hbig
     have hf := fstB_hit (p := szBad L) (n := L.length) (k := k) (by rw [← HM.out]; exact HLT.out) HN.out (by rw [HSB.out]; exact decide_eq_true hbig)
     have HR := hx (HRS2.out _ hf)
     have HO := hx (show RO = [] from HRO.out.trans (by rw [HR.out]; exact if_neg (show ¬ (16 : Int) = 0 by decide)))
     clear hbig hf
     go_wp2_with (go_at_call 45; refine (HSL.out _).mono ?_; rintro e w6 ⟨rfl, rfl⟩)
     refine bodyPost_ret (results_tmp3 rfl _ _ _) rfl ?_
     exact ⟨_, by rw [HR.out]; rfl, by rw [HO.out]; exact Sl.nil _, E2⟩
    ·have hb : decide (T2 > 65535) = false := decide_eq_false hbig
     have HS0 := hx (show szBad L k = false by rw [HSB.out]; exact decide_eq_false hbig)
     clear hbig
     go_wp2_with (go_at_call 45; refine (HSL.out _).mono ?_; rintro e w6 ⟨rfl, rfl⟩)
     go_round
     case rel => exact ⟨k + 1, HLT.out, by go_num, by rw [HT2.out, HWR.out], (fun j hj => (Nat.lt_succ_iff_lt_or_eq.1 hj).elim (HN.out j) (fun h => by rw [h]; exact HS0.out))⟩
     case measure => simp [RowKit.intOf]; omega
   ·obtain rfl : m = k := by omega
    have HSN := hx (fstB_none (p := szBad L) (n := L.length) (by rw [← HM.out]; exact HN.out))
    clear hlt hk HN HRS2
    go_wp2
    go_loopw [10, 11] (fun vo i wr => ∃ k : Nat, k ≤ m ∧ i = .int .i64 (k : Nat) ∧ OwnN wr w2.heap.size vo ((List.range k).map (resX L)) ∧ (∀ j, j < k → farBad L j = false) ∧ Ext w2 wr) (fun _ i _ => m - (RowKit.intOf i).toNat)
    case atStart => exact ⟨0, by omega, rfl, Own.nil _ _ _ _ _, (by intro j hj; omega), Ext.refl _⟩
    case round =>
     obtain ⟨k, hk, rfl, os, hn, he2⟩ := hrel
     have HN := hx hn
     clear hn
     have he := E2.trans he2
     obtain ⟨As, cs, rfl⟩ := os.slice
     by_cases hlt : k < m
     ·obtain ⟨s, hs0⟩ : ∃ s, L[k]? = some s := ⟨_, List.getElem?_eq_getElem (by have := HM.out; omega)⟩
      have hg : L.getD k default = s := by rw [List.getD_eq_getElem?_getD, hs0]; rfl
      obtain ⟨b, o, hAA, vl, d0, dl, -, dok, ⟨d7, d7'⟩, -⟩ := (IsStmts.ext hv he).get hs0
      subst hAA
      obtain ⟨b', o', hBB, hE⟩ := (IsIns.ext i2' he2).get (codeL_get hs0)
      subst hBB
      obtain ⟨⟨z0, z1, z2, z3, z4, z5⟩, -⟩ := hE
      have hkm : (k : Int) < (m : Int) := by omega
      have q1 := (r2.ext he2).cell (i := 1) rfl
      have hrx : resX L k = if neS s.target then { s.ins with off := disI L k } else s.ins := by unfold resX; rw [hg]
      have hfb : farBad L k = (neS s.target && (decide (disI L k < -32768) || decide (disI L k > 32767))) := by unfold farBad; rw [hg]
      have hrr : (List.range (k + 1)).map (resX L) = (List.range k).map (resX L) ++ [resX L k] := by rw [List.range_succ, List.map_append]; rfl
      have hl48 : (((List.range k).map (resX L)).length + 1) * 48 ≤ 140737488355328 := by rw [List.length_map, List.length_range]; omega
      have H48 := hx hl48
      have HRX := hx hrx
      have HFB := hx hfb
      have HRR := hx hrr
      have HLT := hx hlt
      have HLBI := hx (HLI2.out k (by rw [← HM.out]; exact hlt))
      have HGG := hx hg
      have eX := fun (x : Ins) => Ext.new wr (.cells x.enc.toArray 53)
      obtain ⟨labels, ⟨op, reg, n1', n2', n3', n4'⟩, tt, tm⟩ := s
      dsimp only at *
      generalize (List.range k).map (resX L) = RK at *
      clear hrx hfb hrr hl48 hlt hs0 hg dl dok d0 d7' vl
      have HE := hx he
      have HE2 := hx he2
      have OS := hx os
      clear he he2 os
      go_upto_region 17 with fail
      obtain ⟨W1, hW1⟩ : ∃ W1, W1 = wr.alloc (.cells #[.int .i64 op, .bool reg, .int .i64 n1', .int .i64 n2', .int .i64 n3', .int .i64 n4'] 53) := ⟨_, rfl⟩
      rw [← hW1]
      have x1 : Ext wr W1 := by rw [hW1]; exact Ext.new wr _
      have rx1 : RowV W1 wr.heap.size 53 [.int .i64 op, .bool reg, .int .i64 n1', .int .i64 n2', .int .i64 n3', .int .i64 n4'] := by rw [hW1]; exact RowV.new _ _ _
      have hw1 : wr.heap.size < W1.heap.size := rx1.lt
      have os1 := OS.out.ext x1
      have E1' := hx (HE2.out.trans x1)
      have HS1 := hx (Nat.le_trans HE2.out.size (Nat.le_of_lt hw1))
      have q1' := x1.cell q1
      have q0' := ((r2.ext HE2.out).ext x1).cell (i := 0) rfl
      have d7' := x1.cell d7
      have RX1 := hx rx1
      have X1 := hx x1
      clear hW1 q1 z0 z1 z2 z3 z4 z5 eX
      by_cases htt : tt = emS
      ·subst htt
       have u1 := em_list
       have u2 := em_isE
       have HNE := hx (show neS emS = false by simp [neS])
       have HX := hx (HRX.out.trans (if_neg (by rw [HNE.out]; decide)))
       have HF := hx (HFB.out.trans (by rw [HNE.out, Bool.false_and]))
       have y0 := rx1.cell (i := 0) rfl
       have y1 := rx1.cell (i := 1) rfl
       have y2 := rx1.cell (i := 2) rfl
       have y3 := rx1.cell (i := 3) rfl
       have y4 := rx1.cell (i := 4) rfl
       have y5 := rx1.cell (i := 5) rfl
       clear HRX HFB HLBI rx1
       go_wp2_with (at_builtin; refine wp_app1 tyN encN_ok os1 ⟨op, reg, n1', n2', n3', n4'⟩ rfl rfl rfl rfl rfl HS1.out (by decide) H48.out ?_; intro g1 cap1 w3 os3 hg3 hat3 hbg3)
       have he3 := E1'.out.grown hg3 (fun k hk => os1.base_le k hk)
       clear os1 hg3
       go_wp2
       go_roundw
       case rel => exact ⟨k + 1, HLT.out, by go_num, by rw [HRR.out, HX.out]; exact os3, (fun j hj => (Nat.lt_succ_iff_lt_or_eq.1 hj).elim (HN.out j) (fun h => by rw [h]; exact HF.out)), he3⟩
       case measure => simp [RowKit.intOf]; omega
      ·have u1 := ne_list htt
       have u2 := ne_isE htt
       have HNE := hx (show neS tt = true by simp [neS, htt])
       have HX := hx (HRX.out.trans (if_pos HNE.out))
       have HF := hx (HFB.out.trans (by rw [HNE.out, Bool.true_and]))
       obtain ⟨j, hj, hjm⟩ : ∃ j : Nat, labX L tt = (j : Int) ∧ j ≤ m := by
        have h := HLBI.out (by rw [HGG.out]; exact HNE.out)
        rw [HGG.out] at h
        dsimp only at h
        exact ⟨(labX L tt).toNat, (Int.toNat_of_nonneg h.1).symm, by have := HM.out; omega⟩
       have hdi : disI L k = slotsT ((codeL L).take j) - slotsT ((codeL L).take (k + 1)) := by unfold disI; rw [HGG.out]; show slotsT ((codeL L).take (labX L tt).toNat) - _ = _; rw [hj]; rfl
       have hb1 := slotsT_bd ((codeL L).take j)
       have hb2 := slotsT_bd ((codeL L).take (k + 1))
       have hl1 : ((codeL L).take j).length ≤ m := by rw [List.length_take]; omega
       have hl2 : ((codeL L).take (k + 1)).length ≤ m := by rw [List.length_take]; have := HLT.out; omega
       have HLB := hx (show ∀ W, Ext W1 W → Calls Tryz.prog 47 #[.agg #[.slice A1 m1 c1, .slice (some ⟨b, o, none⟩) m c2], .string tt] W (fun e w' => e = .returned (.int .i64 (j : Int)) ∧ Ext W w') by intro W hW; rw [← hj]; exact HLA.out tt W ((HE.out.trans X1.out).trans hW))
       have hin1 := IsIns.ext i2' E1'.out
       have HSA := hx fun (W : World) (hW : Ext W1 W) => HST.out j hjm W (IsIns.ext hin1 hW)
       have hwk : IntKind.i64.wrap ((k : Int) + 1) = (k : Int) + 1 := by rw [IntWalk.i64_in _ (by omega)]
       have HSB := hx fun (W : World) (hW : Ext W1 W) => (show Calls Tryz.prog 46 #[.slice (some ⟨b', o', none⟩) m b2, .int .i64 ((k : Int) + 1)] W (fun e w' => e = .returned (.int .i64 (slotsT ((codeL L).take (k + 1)))) ∧ w' = W) by exact HST.out (k + 1) HLT.out W (IsIns.ext hin1 hW))
       generalize slotsT ((codeL L).take j) = T1 at *
       generalize slotsT ((codeL L).take (k + 1)) = T2 at *
       have hD : IntKind.i64.wrap (T1 - T2) = disI L k := by rw [hdi, IntWalk.i64_in _ (by omega)]
       clear hdi hb1 hb2 hl1 hl2 hj hin1 HRX HFB HLBI
       generalize disI L k = D at *
       go_upto_region 18 with fail
       have L5 := hx fun (W : World) (h : Ext wr W) => And.intro ((r2.ext (HE2.out.trans h)).cell (i := 0) rfl) (And.intro ((r2.ext (HE2.out.trans h)).cell (i := 1) rfl) (h.cell d7))
       have hd2 : Ext W1 W1.drew := (Ext.refl W1).drew
       have hr0 : Ext W1 W1 := Ext.refl W1
       go_cut [12] (fun s12 wx => s12 = .pointer (some ⟨wr.heap.size, 0, none⟩) ∧ RowV wx wr.heap.size 53 [.int .i64 op, .bool reg, .int .i64 n1', .int .i64 n2', .int .i64 D, .int .i64 n4'] ∧ Ext wr wx)
       case first =>
        go_region_held3 (fun w' => w'.cell? ⟨w.heap.size, 0, none⟩ = some (.slice A1 m1 c1) ∧ w'.cell? ⟨w.heap.size, 1, none⟩ = some (.slice (some ⟨b, o, none⟩) m c2) ∧ w'.cell? ⟨b, o + k * 9 + 7, none⟩ = some (.string tt)) (first | exact L5.out _ (X1.out.trans (by assumption)) | exact L5.out _ (Ext.setCell (X1.out.trans (by assumption)) _ (Nat.le_refl _)))
         (first
          | (go_at_call 47; refine (HLB.out _ (by assumption)).mono ?_; rintro e wA ⟨rfl, eA⟩; have fA : Ext W1 wA := Ext.trans (by assumption) eA; have rA := RX1.out.ext fA; have zA := rA.cell (i := 4) rfl; have zF := rA.frozen 4; clear HLB)
          | (go_at_call 46; refine (HSA.out _ (by assumption)).mono ?_; rintro e wB ⟨rfl, rfl⟩; clear HSA)
          | (go_at_call 46; refine (HSB.out _ (by assumption)).mono ?_; rintro e wB ⟨rfl, rfl⟩))
        all_goals
         go_wp2
         go_meet
         exact ⟨rfl, rA.set 4 (.int .i64 D), Ext.setCell (X1.out.trans (by assumption)) _ (Nat.le_refl _)⟩
       case rest =>
        obtain ⟨rfl, rx6, x6⟩ := hcut
        have os6 := OS.out.ext x6
        have HS6 := hx (Nat.le_trans HE2.out.size x6.size)
        have E6 := hx (HE2.out.trans x6)
        have y4 := rx6.cell (i := 4) rfl
        have y0 := rx6.cell (i := 0) rfl
        have y1 := rx6.cell (i := 1) rfl
        have y2 := rx6.cell (i := 2) rfl
        have y3 := rx6.cell (i := 3) rfl
        have y5 := rx6.cell (i := 5) rfl
        clear L5 hd2 hr0 x6 rx6 q0' q1' d7' d7 rx1 x1 os1 HLB HSA HSB E1' RX1 X1
        by_cases hbad : D < -32768 ∨ D > 32767
        ·have hff := fstB_hit (p := farBad L) (n := L.length) (k := k) (by rw [← HM.out]; exact HLT.out) HN.out (by rw [HF.out, Bool.or_eq_true]; exact hbad.elim (fun h => Or.inl (decide_eq_true h)) (fun h => Or.inr (decide_eq_true h)))
         have HR := hx (HRF2.out _ HSN.out hff)
         have HO := hx (show RO = [] from HRO.out.trans (by rw [HR.out]; exact if_neg (show ¬ (13 : Int) = 0 by decide)))
         clear hff
         by_cases hlo : D < -32768
         ·have b1 : decide (D < -32768) = true := decide_eq_true hlo
          clear hbad hlo
          go_wp2
          refine bodyPost_ret (results_tmp3 rfl _ _ _) rfl ?_
          exact ⟨_, by rw [HR.out]; rfl, by rw [HO.out]; exact Sl.nil _, E2.trans E6.out⟩
         ·have b1 : decide (D < -32768) = false := decide_eq_false hlo
          have b2 : decide (D > 32767) = true := decide_eq_true (by omega)
          clear hbad hlo
          go_wp2
          refine bodyPost_ret (results_tmp3 rfl _ _ _) rfl ?_
          exact ⟨_, by rw [HR.out]; rfl, by rw [HO.out]; exact Sl.nil _, E2.trans E6.out⟩
        ·have b1 : decide (D < -32768) = false := decide_eq_false (by omega)
         have b2 : decide (D > 32767) = false := decide_eq_false (by omega)
         have HFF := hx (HF.out.trans (by rw [b1, b2, Bool.or_false]))
         clear hbad
         go_wp2_with (at_builtin; refine wp_app1 tyN encN_ok os6 ⟨op, reg, n1', n2', D, n4'⟩ rfl rfl rfl rfl rfl HS6.out (by decide) H48.out ?_; intro g1 cap1 w3 os3 hg3 hat3 hbg3)
         have he3 := E6.out.grown hg3 (fun k hk => os6.base_le k hk)
         clear os6 hg3
         go_wp2
         go_roundw
         case rel => exact ⟨k + 1, HLT.out, by go_num, by rw [HRR.out, HX.out]; exact os3, (fun j hj => (Nat.lt_succ_iff_lt_or_eq.1 hj).elim (HN.out j) (fun h => by rw [h]; exact HFF.out)), he3⟩
         case measure => simp [RowKit.intOf]; omega
     ·obtain rfl : m = k := by omega
      have HFN := hx (fstB_none (p := farBad L) (n := L.length) (by rw [← HM.out]; exact HN.out))
      have HR := hx (HRK2.out HSN.out HFN.out)
      have HO := hx (HRO.out.trans (by rw [HR.out, if_pos rfl, resL, ← HM.out]))
      have OS := hx os
      clear os hlt
      go_wp2
      refine bodyPost_ret (results_tmp3 rfl _ _ _) rfl ?_
      refine ⟨_, by rw [HR.out]; rfl, ?_, he⟩
      rw [HO.out]
      exact OS.out.read encN_ok (E := EIns) (by rw [List.length_map, List.length_range]; omega) fun x hx b o h => ⟨⟨by simpa using h 0 _ rfl, h 1 _ rfl, h 2 _ rfl, h 3 _ rfl, h 4 _ rfl, h 5 _ rfl⟩, HRSO.out x hx⟩
 ·have HRE2 := hx (HRE.out hz)
  have hz' : (pe != 0) = true := by simpa using hz
  have HO := hx (HRO.out.trans (by rw [HRE2.out, if_neg hz]))
  clear HRE HRS HRF HRK HLI hz
  go_enter Tryz.func16, Tryz.ntmps16
  go_wp2_with fail
  refine HCK.out.mono ?_
  rintro e w1 ⟨rfl, e1⟩
  rw [← HW0.out] at e1
  have E1 := hx (e0.trans e1)
  clear HCK HW0 rP e0 e1
  go_wp2
  refine bodyPost_ret (results_tmp3 rfl _ _ _) rfl ?_
  exact ⟨_, by rw [HRE2.out]; rfl, by rw [HO.out]; exact Sl.nil _, E1.out⟩
end Go.Proofs.YtmofdnlefjfcfaaGreatDoor


set_option linter.unusedVariables false
set_option linter.unusedSimpArgs false
namespace Go.Proofs.YtmofdnlefjfcfaaGreatDoor
open Go.RowKit Go.Lib

def nearL (L : List Stmt) (k : Nat) : List Ins := (List.range k).map (resX L) ++ (codeL L).drop k
theorem nearL_zero (L : List Stmt) : nearL L 0 = codeL L := by simp [nearL]
theorem nearL_all (L : List Stmt) : nearL L L.length = resL L := by unfold nearL resL; rw [List.drop_of_length_le (by rw [codeL_length]; exact Nat.le_refl _), List.append_nil]
theorem nearL_length (L : List Stmt) (k : Nat) (h : k ≤ L.length) : (nearL L k).length = L.length := by simp [nearL, codeL_length]; omega
theorem nearL_get {L : List Stmt} {k : Nat} {s : Stmt} (h : L[k]? = some s) : (nearL L k)[k]? = some s.ins := by
 unfold nearL
 rw [List.getElem?_append_right (by simp)]
 simp only [List.length_map, List.length_range, Nat.sub_self]
 rw [List.getElem?_drop, Nat.add_zero, codeL_get h]
theorem nearL_step {L : List Stmt} {k : Nat} {s : Stmt} (h : L[k]? = some s) : (nearL L k).set k (resX L k) = nearL L (k + 1) := by
 have hk := (List.getElem?_eq_some_iff.1 (codeL_get h)).1
 unfold nearL
 rw [List.set_append_right _ _ (by simp)]
 simp only [List.length_map, List.length_range, Nat.sub_self]
 rw [List.drop_eq_getElem_cons hk, List.set_cons_zero, List.range_succ, List.map_append, List.append_assoc]
 rfl
theorem nearL_same {L : List Stmt} {k : Nat} {s : Stmt} (h : L[k]? = some s) (hr : resX L k = s.ins) : nearL L (k + 1) = nearL L k := by
 rw [← nearL_step h, hr]
 obtain ⟨hk, he⟩ := List.getElem?_eq_some_iff.1 (nearL_get h)
 rw [← he]
 exact (List.set_getElem_self hk)
def nearR (L : List Stmt) : Int × Int := match fstB (farBad L) L.length with | some i => (i, 13) | none => (0, 0)
set_option maxRecDepth 20000 in
theorem MapS.look1 {w : World} {b n : Nat} {p : ByteArray → Option Int} (h : MapS w b n p) (s : ByteArray) (hs : s.size ≤ 140737488355328) :
  (Instr.lookup 107 (.map (some b)) (.string s) false).run Tryz.prog w = .ok (.int .i64 ((p s).getD 0)) w := by
 obtain ⟨D, h1, h2⟩ := h
 obtain ⟨c, hr, hc, -⟩ := h1.lookup_int (Maps.string_keyed Tryz.underlying9) Tryz.underlying107 Tryz.underlying3 (zeroInt w) (WideMaps.keyOf_string_mk Tryz.underlying9 (s := s) (by simp only [maxLen]; omega))
 have h4 := (h2 s).2
 unfold keyS at h4
 rw [h4] at hc
 injection hc with hc
 injection hc with _ hc
 rw [hr, hc]
theorem MapS.neO {α : Type} {e : TypeId} {sz : Nat} {enc : α → List Value} {w : World} {B b n : Nat} {v : Value} {l : List α} {p : ByteArray → Option Int} (h : MapS w b n p) (o : Own e sz enc w B v l) : some b ≠ v.ownBlock := by
 obtain ⟨D, ⟨es, ck, hb, -⟩, -⟩ := h
 rcases o.2 with ⟨rfl, _⟩ | ⟨g', cap', cur', rfl, _, hh', _⟩
 ·simp [Value.ownBlock]
 ·intro he
  have : b = g' := by simpa [Value.ownBlock] using he
  subst this
  rw [hh'] at hb
  injection hb with hb
  cases hb
theorem own_neO {α β : Type} {e e' : TypeId} {sz sz' : Nat} {enc : α → List Value} {enc' : β → List Value} {w : World} {B B' : Nat} {v v' : Value} {l : List α} {l' : List β} (h : Own e sz enc w B v l) (h' : Own e' sz' enc' w B' v' l') (hne : e ≠ e') : v.ownBlock = none ∨ v.ownBlock ≠ v'.ownBlock := Own.type_ne h h' hne
end Go.Proofs.YtmofdnlefjfcfaaGreatDoor


set_option linter.unusedVariables false
set_option linter.unusedSimpArgs false
namespace Go.Proofs.YtmofdnlefjfcfaaGreatDoor
open Go.RowKit Go.Lib

set_option maxRecDepth 40000 in
set_option maxHeartbeats 16000000 in
theorem ares2_any (gp gl gN base : Nat) (A1 A2 : Option Addr) (n1 c1 m c2 : Nat) (L : List Stmt) (w0 w : World) (hm : m = L.length) (hml : m ≤ 100000) (hv : IsStmts w0 (.slice A2 m c2) L) (hfl : (flat L).length ≤ 1000000) (hO : OpsN w0) (hWd : WidN w0)
  (hLI : ∀ j : Nat, j < L.length → neS (L.getD j default).target = true → 0 ≤ labX L (L.getD j default).target ∧ labX L (L.getD j default).target < L.length)
  (rP : RowV w0 gp 25 [.slice A1 n1 c1, .slice A2 m c2]) (e0 : Ext w0 w) (hb : w0.heap.size ≤ base) (hgl : w0.heap.size ≤ gl)
  (rL : RowV w gl 45 [.slice (some ⟨gN, 0, none⟩) m m]) (oN : OwnN w base (.slice (some ⟨gN, 0, none⟩) m m) (codeL L)) :
  Calls Tryz.prog 55 #[.pointer (some ⟨gp, 0, none⟩), .pointer (some ⟨gl, 0, none⟩)] w fun e w' => e = .returned (.tuple #[.int .i64 (nearR L).1, .int .i64 (nearR L).2]) ∧ Ext w0 w' ∧
   ((nearR L).2 = 0 → RowV w' gl 45 [.slice (some ⟨gN, 0, none⟩) m m] ∧ OwnN w' base (.slice (some ⟨gN, 0, none⟩) m m) (resL L)) := by
 have hcl : (codeL L).length = m := by rw [codeL_length, hm]
 have hok := stmts_ok hv
 have hokr := resX_ok hok hm (by omega)
 have HLB := hx (Labels_any A1 A2 n1 c1 m c2 L w hm (by omega) (IsStmts.ext hv e0) hfl)
 have HST := hx fun (W : World) (h : Ext w W) => Starts_own _ (codeL L) W (Own.read encN_ok (oN.ext h) (E := EIns) (by rw [hcl]; omega) fun x hx b o h => ⟨⟨by simpa using h 0 _ rfl, h 1 _ rfl, h 2 _ rfl, h 3 _ rfl, h 4 _ rfl, h 5 _ rfl⟩, hok x hx⟩) (by rw [hcl]; omega) (hO.ext (e0.trans h))
 have HSL := hx fun (n : Int) (W : World) (h : Ext w0 W) (hn : I64 n) => insnSlots_any n W hn (hO.ext h)
 have HFT := hx fun (n : Int) (W : World) (h : Ext w0 W) (hn : I64 n) => numFits16 n W (hWd.ext h) hn
 have HSR := hx (show ∀ i, fstB (farBad L) L.length = some i → nearR L = (i, 13) from fun i h => by unfold nearR; rw [h])
 have HSN := hx (show fstB (farBad L) L.length = none → nearR L = (0, 0) from fun h => by unfold nearR; rw [h])
 have HCL := hx hcl
 have HM := hx hm
 have HLI := hx hLI
 have HOK := hx hok
 have HOKR := hx hokr
 have q0 := (rP.ext e0).cell (i := 0) rfl
 have q1 := (rP.ext e0).cell (i := 1) rfl
 have l0 := rL.cell (i := 0) rfl
 have hgb := oN.base_le gN rfl
 generalize nearR L = NR at *
 clear hO hWd hfl hm hcl hok hokr hLI
 go_enter Tryz.func55, Tryz.ntmps55
 go_wp2_with fail
 refine HLB.out.mono ?_
 rintro e w1 ⟨bm, rfl, mp1, e1⟩
 clear q0 q1 l0
 have l0 := (rL.ext e1).cell (i := 0) rfl
 go_wp2_with fail
 refine (HST.out _ e1).mono ?_
 rintro e w2 ⟨v2, rfl, os2, e2⟩
 have E2 := e0.trans (e1.trans e2)
 have oN2 := oN.ext (e1.trans e2)
 have rL2 := rL.ext (e1.trans e2)
 have mp2 := mp1.ext e2
 have hs1 : gN < w1.heap.size := Nat.lt_of_lt_of_le (oN.lt gN rfl) e1.size
 clear HLB HST e0 e1 e2 rL oN mp1 l0
 obtain ⟨A5, c5, rfl⟩ := os2.slice
 rw [startsL_length, HCL.out] at os2 ⊢
 have q1 := (rP.ext E2).cell (i := 1) rfl
 go_wp2
 go_loopw [19] (fun i wr => ∃ k : Nat, k ≤ m ∧ i = .int .i64 (k : Nat) ∧ (∀ j, j < k → farBad L j = false) ∧ RowV wr gl 45 [.slice (some ⟨gN, 0, none⟩) m m] ∧ OwnN wr base (.slice (some ⟨gN, 0, none⟩) m m) (nearL L k) ∧ MapS wr bm (flat L).length (labAt L) ∧ OwnI wr w1.heap.size (.slice A5 m c5) (startsL (codeL L)) ∧ Ext w0 wr) (fun i _ => m - (RowKit.intOf i).toNat)
 case atStart => exact ⟨0, by omega, rfl, (by intro j hj; omega), rL2, by rw [nearL_zero]; exact oN2, mp2, os2, E2⟩
 case round =>
  clear oN2 mp2 os2 E2 rL2 q1
  obtain ⟨k, hk, rfl, hn, rL, oN, mp, os, he⟩ := hrel
  have HN := hx hn
  clear hn
  by_cases hlt : k < m
  ·obtain ⟨s, hs0⟩ : ∃ s, L[k]? = some s := ⟨_, List.getElem?_eq_getElem (by have := HM.out; omega)⟩
   have hg : L.getD k default = s := by rw [List.getD_eq_getElem?_getD, hs0]; rfl
   have hrx : resX L k = if neS s.target then { s.ins with off := disI L k } else s.ins := by unfold resX; rw [hg]
   have hfb : farBad L k = (neS s.target && (decide (disI L k < -32768) || decide (disI L k > 32767))) := by unfold farBad; rw [hg]
   obtain ⟨b, o, hAA, vl, d0, dl, ⟨d1, d2, d3, d4, d5, d6⟩, dok, ⟨d7, d7'⟩, d8, d8'⟩ := (IsStmts.ext hv he).get hs0
   subst hAA
   obtain ⟨Al, cl, rfl, -, -, -⟩ := dl.form
   have hkm : (k : Int) < (m : Int) := by omega
   have HG := hx hg
   have HRX := hx hrx
   have HFB := hx hfb
   have HLT := hx hlt
   have HS0 := hx hs0
   have HDK := hx dok
   have HLBI := hx (HLI.out k (by rw [← HM.out]; exact hlt))
   have hnl := nearL_length L k (by rw [← HM.out]; exact hk)
   rw [← HM.out] at hnl
   have HNL := hx hnl
   have HNG := hx (nearL_get hs0)
   have HNS := hx (nearL_step hs0)
   have HSM := hx fun (h : resX L k = s.ins) => nearL_same hs0 h
   have rS0 := RowV.new wr (stL Al s.labels.length cl s) 55
   obtain ⟨labels, ⟨op, reg, n1', n2', n3', n4'⟩, tt, tm⟩ := s
   simp only [stL] at *
   have HE := hx he
   have ON := hx oN
   have OS := hx os
   have MP := hx mp
   have RL := hx rL
   have D7 := hx d7'
   clear hrx hfb hs0 hg dok d8' he oN os mp rL hnl dl hlt d7'
   go_upto_region 6 with fail
   obtain ⟨W1, hW1⟩ : ∃ W1, W1 = wr.alloc (.cells #[.slice Al labels.length cl, .int .i64 op, .bool reg, .int .i64 n1', .int .i64 n2', .int .i64 n3', .int .i64 n4', .string tt, .string tm] 55) := ⟨_, rfl⟩
   rw [← hW1]
   have x1 : Ext wr W1 := by rw [hW1]; exact Ext.new wr _
   have rS : RowV W1 wr.heap.size 55 [.slice Al labels.length cl, .int .i64 op, .bool reg, .int .i64 n1', .int .i64 n2', .int .i64 n3', .int .i64 n4', .string tt, .string tm] := by rw [hW1]; exact rS0
   clear hW1 rS0 d0 d1 d2 d3 d4 d5 d6 d7 d8
   have s7 := rS.cell (i := 7) rfl
   by_cases htt : tt = emS
   ·subst htt
    have u1 := em_list
    have u2 := em_isE
    have hne : neS emS = false := by simp [neS]
    have HX := hx (HRX.out.trans (if_neg (by rw [hne]; decide)))
    have HF := hx (HFB.out.trans (by rw [hne, Bool.false_and]))
    have R := hx (And.intro (RL.out.ext x1) (And.intro (ON.out.ext x1) (And.intro (MP.out.ext x1) (And.intro (OS.out.ext x1) (HE.out.trans x1)))))
    clear HRX HFB HLBI hne x1 rS
    go_wp2
    go_roundw
    case rel => exact ⟨k + 1, HLT.out, by go_num, (fun j hj => (Nat.lt_succ_iff_lt_or_eq.1 hj).elim (HN.out j) (fun h => by rw [h]; exact HF.out)), R.out.1, by rw [HSM.out HX.out]; exact R.out.2.1, R.out.2.2.1, R.out.2.2.2.1, R.out.2.2.2.2⟩
    case measure => simp [RowKit.intOf]; omega
   ·have u1 := ne_list htt
    have u2 := ne_isE htt
    have hne : neS tt = true := by simp [neS, htt]
    have HX := hx (HRX.out.trans (if_pos hne))
    have HF := hx (HFB.out.trans (by rw [hne, Bool.true_and]))
    obtain ⟨j, hj, hjm⟩ : ∃ j : Nat, labX L tt = (j : Int) ∧ j < m := by
     have h := HLBI.out (by rw [HG.out]; exact hne)
     rw [HG.out] at h
     dsimp only at h
     exact ⟨(labX L tt).toNat, (Int.toNat_of_nonneg h.1).symm, by have := HM.out; omega⟩
    have hlab : (labAt L tt).getD 0 = (j : Int) := by
     unfold labX at hj
     cases h : labAt L tt with
     | none => rw [h] at hj; exfalso; simp at hj; try omega
     | some i => rw [h] at hj; simpa using hj
    have hjI : (j : Int) < (m : Int) := by omega
    have hdi : disI L k = slotsT ((codeL L).take j) - slotsT ((codeL L).take k) - slotsN op := by
     unfold disI
     rw [HG.out]
     show slotsT ((codeL L).take (labX L tt).toNat) - _ = _
     rw [hj, Int.toNat_natCast, slotsT_take (codeL_get HS0.out)]
     show _ - (_ + slotsN op) = _
     omega
    have hb1 := slotsT_bd ((codeL L).take j)
    have hb2 := slotsT_bd ((codeL L).take k)
    have hl1 : ((codeL L).take j).length ≤ m := by rw [List.length_take]; omega
    have hl2 : ((codeL L).take k).length ≤ m := by rw [List.length_take]; omega
    have hb3 : 0 ≤ slotsN op ∧ slotsN op ≤ 2 := by rcases slotsN_cases op with h | h | h <;> omega
    have HS := hx (HSL.out op)
    have gj := startsL_get (l := codeL L) (k := j) (by rw [HCL.out]; exact hjm)
    have gk := startsL_get (l := codeL L) (k := k) (by rw [HCL.out]; exact HLT.out)
    have hID : I64 (disI L k) := by rw [hdi]; exact ⟨by omega, by omega⟩
    have hw1 : IntKind.i64.wrap (slotsT ((codeL L).take j) - slotsT ((codeL L).take k)) = slotsT ((codeL L).take j) - slotsT ((codeL L).take k) := by rw [IntWalk.i64_in _ (by omega)]
    have hw2 : IntKind.i64.wrap (slotsT ((codeL L).take j) - slotsT ((codeL L).take k) - slotsN op) = disI L k := by rw [hdi, IntWalk.i64_in _ (by omega)]
    have hss := OwnI.starts (OS.out.ext x1) (by rw [HCL.out]; omega)
    obtain ⟨b5, o5, hA5, -⟩ := hss.get gj
    subst hA5
    have SS : ∀ (W : World) (lst : List Ins) (y : Ins), RowV W gl 45 [.slice (some ⟨gN, 0, none⟩) m m] → RowV W wr.heap.size 55 [.slice Al labels.length cl, .int .i64 op, .bool reg, .int .i64 n1', .int .i64 n2', .int .i64 n3', .int .i64 n4', .string tt, .string tm] →
      MapS W bm (flat L).length (labAt L) → OwnI W w1.heap.size (.slice (some ⟨b5, o5, none⟩) m c5) (startsL (codeL L)) → OwnN W base (.slice (some ⟨gN, 0, none⟩) m m) lst → lst.length = m → lst[k]? = some y → y.op = op →
      W.cell? ⟨gl, 0, none⟩ = some (.slice (some ⟨gN, 0, none⟩) m m) ∧ W.cell? ⟨wr.heap.size, 7, none⟩ = some (.string tt) ∧ (Instr.lookup 107 (.map (some bm)) (.string tt) false).run Tryz.prog W = .ok (.int .i64 (j : Int)) W ∧
      W.cell? ⟨b5, o5 + j, none⟩ = some (.int .i64 (slotsT ((codeL L).take j))) ∧ W.cell? ⟨b5, o5 + k, none⟩ = some (.int .i64 (slotsT ((codeL L).take k))) ∧ W.cell? ⟨gN, k * 6, none⟩ = some (.int .i64 op) := by
     intro W lst y h1 h2 h3 h4 h5 h6 h7 h8
     have hI := OwnI.starts h4 (by rw [HCL.out]; omega)
     obtain ⟨bj, oj, ej, cj, -⟩ := hI.get gj
     obtain ⟨bk, ok, ek, ck, -⟩ := hI.get gk
     cases ej
     cases ek
     rw [Nat.mul_one] at cj ck
     have h9 := (OwnN.at h5 (by omega) h7).1
     rw [h8] at h9
     exact ⟨h1.cell (i := 0) rfl, h2.cell (i := 7) rfl, by rw [h3.look1 tt D7.out, hlab], cj, ck, h9⟩
    have L5 := hx fun (W : World) (h : Ext W1 W) => SS W _ _ (RL.out.ext (x1.trans h)) (rS.ext h) (MP.out.ext (x1.trans h)) (OS.out.ext (x1.trans h)) (ON.out.ext (x1.trans h)) HNL.out HNG.out rfl
    have FZ := hx fun (W : World) (h : Ext W1 W) => And.intro (Own.frz (ON.out.ext (x1.trans h)) (k * 6 + 4)) (OwnN.at (ON.out.ext (x1.trans h)) (by rw [HNL.out]; omega) HNG.out).2.2.2.2.1
    have hnx : (nearL L (k + 1))[k]? = some (resX L k) := by rw [← HNS.out, List.getElem?_set_self (by rw [HNL.out]; exact HLT.out)]
    have hnl1 := nearL_length L (k + 1) (by rw [← HM.out]; exact HLT.out)
    rw [← HM.out] at hnl1
    have L6 := hx fun (W : World) (h : Ext W1 W) => (show _ ∧ _ from by
     have oN1 := ON.out.ext (x1.trans h)
     obtain ⟨o6, g6⟩ := OwnN.putOff oN1 k _ (disI L k) HNG.out HNL.out.symm
     rw [← HX.out, HNS.out] at o6
     have r6 := (RL.out.ext (x1.trans h)).keep g6 (own_neV oN1 (by decide) (RL.out.ext (x1.trans h)))
     have t6 := (rS.ext h).keep g6 (own_neV oN1 (by decide) (rS.ext h))
     have m6 := (MP.out.ext (x1.trans h)).kept g6 (MapS.neO (MP.out.ext (x1.trans h)) oN1)
     have s6 := Own.kept (OS.out.ext (x1.trans h)) g6 (own_neO (OS.out.ext (x1.trans h)) oN1 (by decide))
     have e6 := (HE.out.trans (x1.trans h)).grown g6 (fun k e => by cases e; omega)
     exact And.intro (SS _ _ _ r6 t6 m6 s6 o6 hnl1 hnx (by rw [HX.out])) (And.intro r6 (And.intro o6 (And.intro m6 (And.intro s6 e6)))))
    have HNX := hx (hnx.trans (by rw [HX.out]))
    have HNL1 := hx hnl1
    have HIop := hx HDK.out.op
    have E1 := hx (HE.out.trans x1)
    have HID := hx hID
    clear SS hnx hnl1 gj gk hdi hb1 hb2 hl1 hl2 hb3 hj hlab hss hID HRX HFB HLBI HNS HSM HNG HDK x1 rS
    generalize slotsT ((codeL L).take j) = Tj at *
    generalize slotsT ((codeL L).take k) = Tk at *
    generalize slotsN op = sx at *
    generalize disI L k = D at *
    go_upto_region 7 with fail
    have hd2 : Ext W1 W1.drew := (Ext.refl W1).drew
    have hr0 : Ext W1 W1 := Ext.refl W1
    go_cut [8] (fun s8 wx => s8 = .pointer (some ⟨wr.heap.size, 0, none⟩) ∧ RowV wx gl 45 [.slice (some ⟨gN, 0, none⟩) m m] ∧ OwnN wx base (.slice (some ⟨gN, 0, none⟩) m m) (nearL L (k + 1)) ∧ MapS wx bm (flat L).length (labAt L) ∧ OwnI wx w1.heap.size (.slice (some ⟨b5, o5, none⟩) m c5) (startsL (codeL L)) ∧ Ext w0 wx)
    case first =>
     go_region_held3 (fun w' => w'.cell? ⟨gl, 0, none⟩ = some (.slice (some ⟨gN, 0, none⟩) m m) ∧ w'.cell? ⟨wr.heap.size, 7, none⟩ = some (.string tt) ∧ (Instr.lookup 107 (.map (some bm)) (.string tt) false).run Tryz.prog w' = .ok (.int .i64 (j : Int)) w' ∧ w'.cell? ⟨b5, o5 + j, none⟩ = some (.int .i64 Tj) ∧ w'.cell? ⟨b5, o5 + k, none⟩ = some (.int .i64 Tk) ∧ w'.cell? ⟨gN, k * 6, none⟩ = some (.int .i64 op)) (first | exact L5.out _ (by assumption) | exact (L6.out _ (by assumption)).1)
      (first
       | (go_at_call 54; refine (HS.out _ (E1.out.trans (by assumption)) HIop.out).mono ?_; rintro e wA ⟨rfl, eA⟩; have fA : Ext W1 wA := Ext.trans (by assumption) eA; have zF := (FZ.out _ fA).1; have zC := (FZ.out _ fA).2))
     all_goals
      go_wp2
      go_meet
      exact ⟨rfl, (L6.out _ (by assumption)).2⟩
    case rest =>
     obtain ⟨rfl, rL3, oN3, mp3, os3, x3⟩ := hcut
     have l0 := rL3.cell (i := 0) rfl
     have dc := (OwnN.at oN3 (by rw [HNL1.out]; omega) HNX.out).2.2.2.2.1
     dsimp only at dc
     have HF1 := hx (HFT.out D _ x3 HID.out)
     have R := hx (And.intro rL3 (And.intro oN3 (And.intro mp3 (And.intro os3 x3))))
     have hf : farBad L k = !fits16 D := by
      rw [HF.out]
      unfold fits16
      by_cases h1 : -32768 ≤ D <;> by_cases h2 : D ≤ 32767 <;> simp [h1, h2] <;> omega
     have HF2 := hx hf
     clear L5 L6 FZ hd2 hr0 rL3 oN3 mp3 os3 x3 hf
     generalize fits16 D = F at *
     cases F with
     | false =>
      have hff := fstB_hit (p := farBad L) (n := L.length) (k := k) (by rw [← HM.out]; exact HLT.out) HN.out (by rw [HF2.out]; rfl)
      have HR := hx (HSR.out _ hff)
      clear hff
      go_wp2_with fail
      refine HF1.out.mono ?_
      rintro e w7 ⟨rfl, rfl⟩
      go_wp2
      refine bodyPost_ret (results_tmp2 rfl _ _ _) rfl ?_
      exact ⟨by rw [HR.out]; rfl, R.out.2.2.2.2, fun h => by rw [HR.out] at h; exact absurd (show (13 : Int) = 0 from h) (by decide)⟩
     | true =>
      go_wp2_with fail
      refine HF1.out.mono ?_
      rintro e w7 ⟨rfl, rfl⟩
      go_wp2
      go_roundw
      case rel => exact ⟨k + 1, HLT.out, by go_num, (fun j hj => (Nat.lt_succ_iff_lt_or_eq.1 hj).elim (HN.out j) (fun h => by rw [h, HF2.out]; rfl)), R.out.1, R.out.2.1, R.out.2.2.1, R.out.2.2.2.1, R.out.2.2.2.2⟩
      case measure => simp [RowKit.intOf]; omega
  ·obtain rfl : m = k := by omega
   have HR := hx (HSN.out (fstB_none (p := farBad L) (n := L.length) (by rw [← HM.out]; exact HN.out)))
   have hNA : nearL L m = resL L := by rw [HM.out]; exact nearL_all L
   rw [hNA] at oN
   have R := hx (And.intro he (And.intro rL oN))
   clear hlt he rL oN
   go_wp2
   refine bodyPost_ret (results_tmp2 rfl _ _ _) rfl ?_
   exact ⟨by rw [HR.out]; rfl, R.out.1, fun _ => R.out.2⟩
end Go.Proofs.YtmofdnlefjfcfaaGreatDoor
