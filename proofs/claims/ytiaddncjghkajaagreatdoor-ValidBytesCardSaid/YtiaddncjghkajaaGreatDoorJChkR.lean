/- The layer valid, the reference: Check. -/
import Derived.Test.YtiaddncjghkajaaGreatDoorJJoinR
set_option linter.unusedVariables false
set_option linter.unusedSimpArgs false
namespace Go.Proofs.YtiaddncjghkajaaGreatDoor
open Go.RowKit

theorem neBool (a b : Bool) (w : World) : (binOp .neq 4 (.bool a) (.bool b)).run Tryz.prog w = .ok (.bool (a != b)) w := by
 cases a <;> cases b <;> go_simp
set_option maxRecDepth 40000 in
set_option maxHeartbeats 16000000 in
theorem ref17Check_any (v : Value) (o : Ob) (w : World) (h : IsOb w v o) (hm : o.maps.length ≤ 100000) (hr : o.rels.length ≤ 1000000) :
  Calls Tryz.prog 31 #[v] w fun e w' => e = .returned (.tuple #[.int .i64 (chk17 o).1, .int .i64 (chk17 o).2]) ∧ Ext w w' := by
 obtain ⟨A1, c1, A2, c2, A3, c3, rfl, h'⟩ := isOb_form h
 have hb : IsB w (.slice A2 o.code.length c2) o.code := by
  obtain ⟨_, _, _, h1, _, h2, _⟩ := h'
  injection h1 with h1
  simp only [Array.mk.injEq, List.cons.injEq, and_true] at h1
  obtain ⟨-, rfl, -⟩ := h1
  exact h2
 obtain ⟨W0, hW0⟩ : ∃ W0, W0 = w.alloc (.cells #[.slice A1 o.maps.length c1, .slice A2 o.code.length c2, .slice A3 o.rels.length c3] 26) := ⟨_, rfl⟩
 have e0 : Ext w W0 := by rw [hW0]; exact Ext.new _ _
 have r0 : RowO W0 w.heap.size (.slice A1 o.maps.length c1) (.slice A2 o.code.length c2) (.slice A3 o.rels.length c3) := by rw [hW0]; exact rowO_new _ _ _ _
 have hC := ref16_Check_any _ o W0 (h'.ext e0) hm hr
 have HA := hx fun (W : World) (hW : Ext w W) (hl : o.code.length ≤ 1000000) => refAll_any _ o.code W (IsB.ext hb hW) hl
 have HOB := hx h'
 have HRL := hx hr
 rw [hW0] at hC
 have HW0 := hx hW0
 have HCH := hx hC
 have HBT := hx (IsB.byt hb)
 clear hW0 hC h h' hb hm hr
 by_cases hE : obE o = 0
 ·have hpt := obE_parts hE
  have hco : o.code.length ≤ 524280 := hpt.2.1
  have hne : o.code ≠ [] := fun e => hpt.2.2.2.1 (by rw [e]; rfl)
  have HA2 := hx fun W hW => HA.out W hW (by omega)
  rw [hE] at HCH
  clear HA
  by_cases hE2 : allE o.code = 0
  ·have hLb := allI_len o.code
   have hLb2 : (allI o.code).length ≤ 1000000 := by omega
   have hLn := allI_ne hne hE2
   have HOF := hx (allI_off HBT.out)
   have HRS := hx (chk17_rest hE hE2)
   rw [hE2] at HA2
   generalize allI o.code = L at *
   generalize allAt o.code = AT at *
   obtain ⟨m, hm⟩ : ∃ m, m = L.length := ⟨_, rfl⟩
   have hm1 : m ≤ 1000000 := by omega
   have hm2 : 0 < m := by omega
   have HM := hx hm
   have HLB := hx hLb2
   obtain ⟨n8, hn8⟩ : ∃ n : Nat, n = o.code.length / 8 := ⟨_, rfl⟩
   rw [← hn8] at HRS
   have hn8b : n8 ≤ 100000 := by omega
   have hq : Int.tdiv (o.code.length : Int) 8 = (n8 : Int) := by rw [Int.tdiv_eq_ediv_of_nonneg (by omega)]; omega
   have HQ := hx hq
   obtain ⟨CH, hCH⟩ : ∃ CH, CH = chk17 o := ⟨_, rfl⟩
   rw [← hCH] at HRS ⊢
   have HCM := hx (show AT = AT from rfl)
   clear hm hLb hLb2 hLn hn8 hq hCH hpt hco hne hE hE2
   generalize o.code.length = nc at *
   generalize o.maps.length = nm at *
   go_enter Tryz.func31, Tryz.ntmps31
   go_wp2_with fail
   refine HCH.out.mono ?_
   rintro e w1 ⟨rfl, e1⟩
   rw [← HW0.out] at e1
   have r1 := r0.ext e1
   have k1 := r1.c1
   clear HCH HW0
   go_wp2_with fail
   refine (HA2.out _ (e0.trans e1)).mono ?_
   rintro e w2 ⟨v2, rfl, i2, e2⟩
   obtain ⟨A4, c4, rfl, -, -, i4⟩ := i2.form
   have HST := hx fun (k : Nat) (hk : k ≤ m) (W : World) (hW : Ext w2 W) => refStart_any _ L k W (IsIns.ext i4 hW) HLB.out (by rw [← HM.out]; exact hk)
   have HTG := hx fun (k : Nat) (hk : k < m) (W : World) (hW : Ext w2 W) => refTarget_any _ L k W (IsIns.ext i4 hW) HLB.out (by rw [← HM.out]; exact hk) HOF.out
   have HRF := hx fun (s : Int) (W : World) (hW : Ext w2 W) => refers_any _ L s W (IsIns.ext i4 hW) HLB.out
   have E2 := hx ((e0.trans e1).trans e2)
   have HHS := hx fun (s : Int) (W : World) (hW : Ext w2 W) => has_any _ o s W (HOB.out.ext (E2.out.trans hW)) HRL.out
   have R2 := hx (r1.ext e2)
   have HI4 := hx i4
   rw [← HM.out] at HST HTG HRF HI4 ⊢
   clear HA2 e0 e1 e2 r0 r1 k1 i2 i4 HOB HRL HBT
   go_wp2
   go_loopw [7] (fun i wr => ∃ k : Nat, k ≤ m ∧ i = .int .i64 (k : Nat) ∧ (∀ j, j < k → fieldP (L.getD j default) = false) ∧ Ext w2 wr) (fun i _ => m - (RowKit.intOf i).toNat)
   case atStart => exact ⟨0, by omega, rfl, by intro j hj; omega, Ext.refl _⟩
   case round =>
    obtain ⟨k, hk, rfl, hn, he⟩ := hrel
    have HN := Go.Proofs.YtiaddncjghkajaaGreatDoor.hx hn
    clear hn
    by_cases hlt : k < m
    ·obtain ⟨x, hx0⟩ : ∃ x, L[k]? = some x := ⟨_, List.getElem?_eq_getElem (by have := HM.out; omega)⟩
     have hg : L.getD k default = x := by rw [List.getD_eq_getElem?_getD, hx0]; rfl
     obtain ⟨bx, ox, rfl, hE⟩ := (IsIns.ext HI4.out he).get hx0
     obtain ⟨⟨k0, k1, k2, k3, k4, k5⟩, hok⟩ := hE
     have hkm : (k : Int) < (m : Int) := by omega
     have hF := refForm_any x.op wr hok.op
     rw [← formN_eq] at hF
     have HF := Go.Proofs.YtiaddncjghkajaaGreatDoor.hx hF
     have hS := HST.out k (by omega) wr he
     have HS := Go.Proofs.YtiaddncjghkajaaGreatDoor.hx hS
     have hpx : fieldP (L.getD k default) = ((formN x.op == 11) && (x.imm != 0)) := by rw [hg]; rfl
     have HPX := Go.Proofs.YtiaddncjghkajaaGreatDoor.hx hpx
     have HLT := Go.Proofs.YtiaddncjghkajaaGreatDoor.hx hlt
     have HE := Go.Proofs.YtiaddncjghkajaaGreatDoor.hx he
     obtain ⟨op, reg, n1, n2, n3, n4⟩ := x
     dsimp only at *
     generalize hT : slotsT (L.take k) = T at *
     have HT := Go.Proofs.YtiaddncjghkajaaGreatDoor.hx hT
     generalize formN op = F at *
     clear hF hS hpx hlt he hx0 hg hok hT k1 k2 k3 k4
     by_cases h11 : F = 11
     ·subst h11
      by_cases hi : n4 = 0
      ·have hib : (n4 != 0) = false := by simpa using hi
       have HIB := Go.Proofs.YtiaddncjghkajaaGreatDoor.hx hib
       clear hi
       go_wp2_with fail
       refine HF.out.mono ?_
       rintro e w3 ⟨rfl, rfl⟩
       go_wp2
       go_roundw
       case rel => exact ⟨k + 1, HLT.out, by go_num, fun j hj => (Nat.lt_succ_iff_lt_or_eq.1 hj).elim (HN.out j) (fun h => by rw [h, HPX.out, HIB.out]; rfl), HE.out⟩
       case measure => simp [RowKit.intOf]; omega
      ·have hib : (n4 != 0) = true := by simpa using hi
       have HIB := Go.Proofs.YtiaddncjghkajaaGreatDoor.hx hib
       clear hi
       go_wp2_with fail
       refine HF.out.mono ?_
       rintro e w3 ⟨rfl, rfl⟩
       go_wp2_with fail
       refine HS.out.mono ?_
       rintro e w3 ⟨rfl, rfl⟩
       have hf := fstN_hit (p := fieldP) (L := L) (k := k) (by have h1 := HLT.out; have h2 := HM.out; omega) HN.out (by rw [HPX.out, HIB.out]; rfl)
       rw [HT.out] at hf
       have HFX := Go.Proofs.YtiaddncjghkajaaGreatDoor.hx hf
       clear hf
       go_wp2
       go_ret2
       exact ⟨by rw [HRS.out, r17_0s HFX.out]; rfl, E2.out.trans HE.out⟩
     ·have d : (F == 11) = false := by simpa using h11
      have D := Go.Proofs.YtiaddncjghkajaaGreatDoor.hx d
      clear h11
      go_wp2_with fail
      refine HF.out.mono ?_
      rintro e w3 ⟨rfl, rfl⟩
      go_wp2
      go_roundw
      case rel => exact ⟨k + 1, HLT.out, by go_num, fun j hj => (Nat.lt_succ_iff_lt_or_eq.1 hj).elim (HN.out j) (fun h => by rw [h, HPX.out, D.out]; rfl), HE.out⟩
      case measure => simp [RowKit.intOf]; omega
    ·obtain rfl : m = k := by omega
     have hf := fstN_none (p := fieldP) (L := L) (by rw [← HM.out]; exact HN.out)
     have HR1 := Go.Proofs.YtiaddncjghkajaaGreatDoor.hx (HRS.out.trans (r17_0n hf))
     have HE := Go.Proofs.YtiaddncjghkajaaGreatDoor.hx he
     clear hf HN HRS hlt he hk
     have hc1 := (R2.out.ext HE.out).c1
     have hq := HQ.out
     have hwq : wrap64 (n8 : Int) = (n8 : Int) := wrapL _ (by omega) (by omega)
     go_wp2
     clear hc1
     go_loopw [8] (fun i wr => ∃ j : Nat, j ≤ n8 ∧ i = .int .i64 (j : Nat) ∧ (∀ t : Nat, t < j → refersN L t = hasN o.rels t) ∧ Ext w2 wr) (fun i _ => n8 - (RowKit.intOf i).toNat)
     case atStart => exact ⟨0, by omega, rfl, by intro j hj; omega, HE.out⟩
     case round =>
      obtain ⟨j, hj, rfl, hn, he⟩ := hrel
      have HN := Go.Proofs.YtiaddncjghkajaaGreatDoor.hx hn
      clear hn
      have hrw := R2.out.ext he
      have k0 := hrw.c0
      have k1 := hrw.c1
      have k2 := hrw.c2
      clear hrw
      by_cases hlt : j < n8
      ·have hjn : (j : Int) < (n8 : Int) := by omega
       have hqb : ∀ b c W, (binOp .neq 4 (.bool b) (.bool c)).run Tryz.prog W = .ok (.bool (b != c)) W := neBool
       have HF := Go.Proofs.YtiaddncjghkajaaGreatDoor.hx fun W (hW : Ext w2 W) => HRF.out (j : Int) W hW
       have HH := Go.Proofs.YtiaddncjghkajaaGreatDoor.hx fun W (hW : Ext w2 W) => HHS.out (j : Int) W hW
       have HLT := Go.Proofs.YtiaddncjghkajaaGreatDoor.hx hlt
       have HE2 := Go.Proofs.YtiaddncjghkajaaGreatDoor.hx he
       obtain ⟨bR, hbR⟩ : ∃ b, b = refersN L (j : Int) := ⟨_, rfl⟩
       obtain ⟨bH, hbH⟩ : ∃ b, b = hasN o.rels (j : Int) := ⟨_, rfl⟩
       rw [← hbR] at HF
       rw [← hbH] at HH
       have HBR := Go.Proofs.YtiaddncjghkajaaGreatDoor.hx hbR
       have HBH := Go.Proofs.YtiaddncjghkajaaGreatDoor.hx hbH
       clear hlt he hbR hbH
       go_upto_region 15 with fail
       have L5 := Go.Proofs.YtiaddncjghkajaaGreatDoor.hx fun (W : World) (h : Ext wr W) => And.intro ((HE2.out.trans h).cell ((R2.out).c0)) (And.intro ((HE2.out.trans h).cell ((R2.out).c1)) ((HE2.out.trans h).cell ((R2.out).c2)))
       have hd : Ext wr wr.drew := (Ext.refl wr).drew
       have hr0 : Ext wr wr := Ext.refl wr
       go_cut [66] (fun s66 wx => s66 = .bool (bR != bH) ∧ Ext wr wx)
       case first =>
        go_region_held3 (fun w' => w'.cell? ⟨w.heap.size, 0, none⟩ = some (.slice A1 nm c1) ∧ w'.cell? ⟨w.heap.size, 1, none⟩ = some (.slice A2 nc c2) ∧ w'.cell? ⟨w.heap.size, 2, none⟩ = some (.slice A3 o.rels.length c3)) (exact L5.out _ (by assumption))
         (first
          | (go_at_call 75; refine (HF.out _ (HE2.out.trans (by assumption))).mono ?_; rintro e wA ⟨rfl, rfl⟩)
          | (go_at_call 76; refine (HH.out _ (HE2.out.trans (by assumption))).mono ?_; rintro e wB ⟨rfl, eB⟩; have fB : Ext wr wB := Ext.trans (by assumption) eB))
        go_wp2
        go_meet
        exact ⟨rfl, by assumption⟩
       case rest =>
        obtain ⟨rfl, x6⟩ := hcut
        have E6 := Go.Proofs.YtiaddncjghkajaaGreatDoor.hx (HE2.out.trans x6)
        clear L5 hd hr0 x6 k0 k1 k2 hqb
        cases hbb : (bR != bH) with
        | true =>
         have hne : refersN L (j : Int) ≠ hasN o.rels (j : Int) := by rw [← HBR.out, ← HBH.out]; simpa using hbb
         have hf := lkN_hit (L := L) (rs := o.rels) HLT.out HN.out hne
         have HFX := Go.Proofs.YtiaddncjghkajaaGreatDoor.hx hf
         clear hne hf hbb
         go_wp2
         go_ret2
         exact ⟨by rw [HR1.out, r17_1s HFX.out]; rfl, E2.out.trans E6.out⟩
        | false =>
         have heq : refersN L (j : Int) = hasN o.rels (j : Int) := by rw [← HBR.out, ← HBH.out]; simpa using hbb
         have HEQ := Go.Proofs.YtiaddncjghkajaaGreatDoor.hx heq
         clear heq hbb
         go_wp2
         go_roundw
         case rel => exact ⟨j + 1, HLT.out, by go_num, fun t ht => (Nat.lt_succ_iff_lt_or_eq.1 ht).elim (HN.out t) (fun h => by rw [h]; exact HEQ.out), E6.out⟩
         case measure => simp [RowKit.intOf]; omega
      ·obtain rfl : n8 = j := by omega
       have hf := lkN_none (L := L) (rs := o.rels) HN.out
       have HR2 := Go.Proofs.YtiaddncjghkajaaGreatDoor.hx (HR1.out.trans (r17_1n hf))
       have HE3 := Go.Proofs.YtiaddncjghkajaaGreatDoor.hx he
       clear hf HN HR1 hlt he hj k0 k2
       go_wp2
       go_loopw [9] (fun i wr => ∃ k : Nat, k ≤ m ∧ i = .int .i64 (k : Nat) ∧ (∀ j, j < k → tgtBadAt L j = false) ∧ Ext w2 wr) (fun i _ => m - (RowKit.intOf i).toNat)
       case atStart => exact ⟨0, by omega, rfl, by intro j hj; omega, HE3.out⟩
       case round =>
        obtain ⟨k, hk, rfl, hn, he⟩ := hrel
        have HN := Go.Proofs.YtiaddncjghkajaaGreatDoor.hx hn
        clear hn
        by_cases hlt : k < m
        ·obtain ⟨x, hx0⟩ : ∃ x, L[k]? = some x := ⟨_, List.getElem?_eq_getElem (by have := HM.out; omega)⟩
         have hg : L.getD k default = x := by rw [List.getD_eq_getElem?_getD, hx0]; rfl
         obtain ⟨bx, ox, rfl, hE⟩ := (IsIns.ext HI4.out he).get hx0
         obtain ⟨⟨k0, k1, k2, k3, k4, k5⟩, hok⟩ := hE
         have hkm : (k : Int) < (m : Int) := by omega
         have hJ := ref17jumps_any x wr hok
         have HJ := Go.Proofs.YtiaddncjghkajaaGreatDoor.hx hJ
         have HT1 := Go.Proofs.YtiaddncjghkajaaGreatDoor.hx fun W (hW : Ext w2 W) => HTG.out k hlt W hW
         have HS := Go.Proofs.YtiaddncjghkajaaGreatDoor.hx fun W (hW : Ext w2 W) => HST.out k (by omega) W hW
         have hba : tgtBadAt L k = (jumpsX x && decide (tgtN L k < 0)) := by unfold tgtBadAt; rw [hg]
         have HBA := Go.Proofs.YtiaddncjghkajaaGreatDoor.hx hba
         have HLT := Go.Proofs.YtiaddncjghkajaaGreatDoor.hx hlt
         have HE := Go.Proofs.YtiaddncjghkajaaGreatDoor.hx he
         unfold Ins.v at HJ
         generalize jumpsX x = J at *
         obtain ⟨op, reg, n1, n2, n3, n4⟩ := x
         dsimp only at *
         generalize tgtN L k = TN at *
         clear hJ hba hlt he hx0 hg hok
         cases J with
         | false =>
          go_wp2_with fail
          refine HJ.out.mono ?_
          rintro e w3 ⟨rfl, e3⟩
          have Y := Go.Proofs.YtiaddncjghkajaaGreatDoor.hx (HE.out.trans e3)
          clear e3 k0 k1 k2 k3 k4 k5
          go_wp2
          go_roundw
          case rel => exact ⟨k + 1, HLT.out, by go_num, fun j hj => (Nat.lt_succ_iff_lt_or_eq.1 hj).elim (HN.out j) (fun h => by rw [h, HBA.out]; rfl), Y.out⟩
          case measure => simp [RowKit.intOf]; omega
         | true =>
          go_wp2_with fail
          refine HJ.out.mono ?_
          rintro e w3 ⟨rfl, e3⟩
          have Y := HE.out.trans e3
          clear e3 k0 k1 k2 k3 k4 k5
          go_wp2_with fail
          refine (HT1.out _ Y).mono ?_
          rintro e w4 ⟨rfl, e4⟩
          have Y4 := Y.trans e4
          clear e4 Y
          by_cases hb : TN < 0
          ·have hd : decide (TN < 0) = true := decide_eq_true hb
           have HD := Go.Proofs.YtiaddncjghkajaaGreatDoor.hx hd
           clear hb
           go_wp2_with fail
           refine (HS.out _ Y4).mono ?_
           rintro e w5 ⟨rfl, rfl⟩
           have hbad := tgtBad_hit (L := L) (k := k) (by have h1 := HLT.out; have h2 := HM.out; omega) HN.out (by rw [HBA.out, HD.out]; rfl)
           have HBD := Go.Proofs.YtiaddncjghkajaaGreatDoor.hx hbad
           clear hbad hd
           go_wp2
           go_ret2
           exact ⟨by rw [HR2.out, r17_2s HBD.out]; rfl, E2.out.trans Y4⟩
          ·have hd : decide (TN < 0) = false := decide_eq_false hb
           have HD := Go.Proofs.YtiaddncjghkajaaGreatDoor.hx hd
           have HY := Go.Proofs.YtiaddncjghkajaaGreatDoor.hx Y4
           clear hb Y4
           go_wp2
           go_roundw
           case rel => exact ⟨k + 1, HLT.out, by go_num, fun j hj => (Nat.lt_succ_iff_lt_or_eq.1 hj).elim (HN.out j) (fun h => by rw [h, HBA.out, HD.out]; rfl), HY.out⟩
           case measure => simp [RowKit.intOf]; omega
        ·obtain rfl : m = k := by omega
         have hf := tgtBad_none (L := L) (by rw [← HM.out]; exact HN.out)
         have HR3 := Go.Proofs.YtiaddncjghkajaaGreatDoor.hx (HR2.out.trans (r17_2n hf))
         have HE4 := Go.Proofs.YtiaddncjghkajaaGreatDoor.hx he
         clear hf HN HR2 hlt he hk
         go_wp2
         go_loopw [10] (fun i wr => ∃ j : Nat, j ≤ m ∧ i = .int .i64 (j : Nat) ∧ (∀ t, t < j → writeP (L.getD t default) = false) ∧ Ext w2 wr) (fun i _ => m - (RowKit.intOf i).toNat)
         case atStart => exact ⟨0, by omega, rfl, by intro j hj; omega, HE4.out⟩
         case round =>
          obtain ⟨j, hj, rfl, hn, he⟩ := hrel
          have HN := Go.Proofs.YtiaddncjghkajaaGreatDoor.hx hn
          clear hn
          by_cases hlt : j < m
          ·obtain ⟨x, hx0⟩ : ∃ x, L[j]? = some x := ⟨_, List.getElem?_eq_getElem (by have := HM.out; omega)⟩
           have hg : L.getD j default = x := by rw [List.getD_eq_getElem?_getD, hx0]; rfl
           obtain ⟨bx, ox, rfl, hE⟩ := (IsIns.ext HI4.out he).get hx0
           obtain ⟨⟨k0, k1, k2, k3, k4, k5⟩, hok⟩ := hE
           have hkm : (j : Int) < (m : Int) := by omega
           have HJ := Go.Proofs.YtiaddncjghkajaaGreatDoor.hx (ref04Writes_any x wr hok)
           have HS := Go.Proofs.YtiaddncjghkajaaGreatDoor.hx fun W (hW : Ext w2 W) => HST.out j (by omega) W hW
           have hpx : writeP (L.getD j default) = (writesX x == 10) := by rw [hg]; rfl
           have HPX := Go.Proofs.YtiaddncjghkajaaGreatDoor.hx hpx
           have HLT := Go.Proofs.YtiaddncjghkajaaGreatDoor.hx hlt
           have HE := Go.Proofs.YtiaddncjghkajaaGreatDoor.hx he
           unfold Ins.v at HJ
           generalize writesX x = WX at *
           obtain ⟨op, reg, n1, n2, n3, n4⟩ := x
           dsimp only at *
           clear hpx hlt he hx0 hg hok
           go_wp2_with fail
           refine HJ.out.mono ?_
           rintro e w3 ⟨rfl, e3⟩
           have Y := HE.out.trans e3
           clear e3 k0 k1 k2 k3 k4 k5
           by_cases hw : WX = 10
           ·subst hw
            go_wp2_with fail
            refine (HS.out _ Y).mono ?_
            rintro e w5 ⟨rfl, rfl⟩
            have hf := fstN_hit (p := writeP) (L := L) (k := j) (by have h1 := HLT.out; have h2 := HM.out; omega) HN.out (by rw [HPX.out]; rfl)
            have HFX := Go.Proofs.YtiaddncjghkajaaGreatDoor.hx hf
            clear hf
            go_wp2
            go_ret2
            exact ⟨by rw [HR3.out, r17_3s HFX.out]; rfl, E2.out.trans Y⟩
           ·have hwb : (WX == 10) = false := by simpa using hw
            have HWB := Go.Proofs.YtiaddncjghkajaaGreatDoor.hx hwb
            have HY := Go.Proofs.YtiaddncjghkajaaGreatDoor.hx Y
            clear hw Y
            go_wp2
            go_roundw
            case rel => exact ⟨j + 1, HLT.out, by go_num, fun t ht => (Nat.lt_succ_iff_lt_or_eq.1 ht).elim (HN.out t) (fun h => by rw [h, HPX.out, HWB.out]), HY.out⟩
            case measure => simp [RowKit.intOf]; omega
          ·obtain rfl : m = j := by omega
           have hf := fstN_none (p := writeP) (L := L) (by rw [← HM.out]; exact HN.out)
           have HR4 := Go.Proofs.YtiaddncjghkajaaGreatDoor.hx (HR3.out.trans (r17_3n hf))
           obtain ⟨i, hi⟩ : ∃ i, m = i + 1 := ⟨m - 1, by omega⟩
           have hkl : L.length = i + 1 := by rw [← hi]; exact HM.out.symm
           obtain ⟨x, hx0⟩ : ∃ x, L[i]? = some x := ⟨_, List.getElem?_eq_getElem (by omega)⟩
           have hg : L.getD i default = x := by rw [List.getD_eq_getElem?_getD, hx0]; rfl
           obtain ⟨bx, ox, rfl, hE⟩ := (IsIns.ext HI4.out he).get hx0
           obtain ⟨⟨k0, k1, k2, k3, k4, k5⟩, hok⟩ := hE
           have hw1 : wrap64 (i : Int) = (i : Int) := wrapL _ (by omega) (by omega)
           have hk1 : (m : Int) - 1 = (i : Int) := by omega
           have hkm : (i : Int) < (m : Int) := by omega
           have hF := refForm_any x.op wr hok.op
           rw [← formN_eq] at hF
           have HF := Go.Proofs.YtiaddncjghkajaaGreatDoor.hx hF
           have HS := Go.Proofs.YtiaddncjghkajaaGreatDoor.hx (HST.out i (by omega) wr he)
           have hex : endsX (L.getD i default) = decide (formN x.op = 3 ∨ formN x.op = 6) := by rw [hg]; rfl
           have HEX := Go.Proofs.YtiaddncjghkajaaGreatDoor.hx hex
           have HKL := Go.Proofs.YtiaddncjghkajaaGreatDoor.hx hkl
           have HE := Go.Proofs.YtiaddncjghkajaaGreatDoor.hx he
           obtain ⟨op, reg, n1, n2, n3, n4⟩ := x
           dsimp only at *
           generalize formN op = F at *
           clear hf HN HR3 hlt he hj hkl hi hF hex hx0 hg hok k1 k2 k3 k4 k5 hm1 hm2
           by_cases h3 : F = 3
           ·subst h3
            have HFX := Go.Proofs.YtiaddncjghkajaaGreatDoor.hx (HR4.out.trans (r17_4n HKL.out (by rw [HEX.out]; rfl)))
            go_wp2_with fail
            refine HF.out.mono ?_
            rintro e w5 ⟨rfl, rfl⟩
            go_wp2
            go_ret2
            exact ⟨by rw [HFX.out]; rfl, E2.out.trans HE.out⟩
           ·have h3b : (F != 3) = true := by simpa using h3
            by_cases h6 : F = 6
            ·subst h6
             have HFX := Go.Proofs.YtiaddncjghkajaaGreatDoor.hx (HR4.out.trans (r17_4n HKL.out (by rw [HEX.out]; rfl)))
             clear h3 h3b
             go_wp2_with fail
             refine HF.out.mono ?_
             rintro e w5 ⟨rfl, rfl⟩
             go_wp2
             go_ret2
             exact ⟨by rw [HFX.out]; rfl, E2.out.trans HE.out⟩
            ·have h6b : (F != 6) = true := by simpa using h6
             have HFX := Go.Proofs.YtiaddncjghkajaaGreatDoor.hx (HR4.out.trans (r17_4s HKL.out (by rw [HEX.out]; exact decide_eq_false (by omega))))
             clear h3 h6
             go_wp2_with fail
             refine HF.out.mono ?_
             rintro e w5 ⟨rfl, rfl⟩
             go_wp2_with fail
             refine HS.out.mono ?_
             rintro e w5 ⟨rfl, rfl⟩
             go_wp2
             go_ret2
             exact ⟨by rw [HFX.out]; rfl, E2.out.trans HE.out⟩
  ·have hc := chk17_all hE hE2
   have hz : (allE o.code != 0) = true := by simpa using hE2
   have HCC := Go.Proofs.YtiaddncjghkajaaGreatDoor.hx hc
   clear hc hpt hco hne hE hE2 HRL HBT HOB
   generalize allE o.code = AE at *
   generalize allAt o.code = AT at *
   rw [HCC.out]
   generalize o.maps.length = nm at *
   generalize o.rels.length = nr at *
   generalize o.code.length = nc at *
   go_enter Tryz.func31, Tryz.ntmps31
   go_wp2_with fail
   refine HCH.out.mono ?_
   rintro e w1 ⟨rfl, e1⟩
   rw [← HW0.out] at e1
   have r1 := r0.ext e1
   have k1 := r1.c1
   clear HCH HW0
   go_wp2_with fail
   refine (HA2.out _ (e0.trans e1)).mono ?_
   rintro e w2 ⟨v2, rfl, -, e2⟩
   have E2 := Go.Proofs.YtiaddncjghkajaaGreatDoor.hx ((e0.trans e1).trans e2)
   clear HA2 k1 e2 e1
   go_wp2
   go_ret2
   exact ⟨rfl, E2.out⟩
 ·have hc := chk17_ob hE
  have hz : (obE o != 0) = true := by simpa using hE
  have HCC := Go.Proofs.YtiaddncjghkajaaGreatDoor.hx hc
  clear hc hE HRL HBT HOB HA
  generalize obE o = OE at *
  rw [HCC.out]
  generalize o.maps.length = nm at *
  generalize o.rels.length = nr at *
  generalize o.code.length = nc at *
  go_enter Tryz.func31, Tryz.ntmps31
  go_wp2_with fail
  refine HCH.out.mono ?_
  rintro e w1 ⟨rfl, e1⟩
  rw [← HW0.out] at e1
  have E2 := Go.Proofs.YtiaddncjghkajaaGreatDoor.hx (e0.trans e1)
  clear HCH HW0 e1
  go_wp2
  go_ret2
  exact ⟨rfl, E2.out⟩
end Go.Proofs.YtiaddncjghkajaaGreatDoor
