/- The layer valid: check. -/
import Derived.Test.YtmofdnlefjfcfaaGreatDoorJAllR
import Derived.Test.YtmofdnlefjfcfaaGreatDoorJAAss
import Derived.Test.YtmofdnlefjfcfaaGreatDoorJObj
import Derived.WalkMore
set_option linter.unusedVariables false
set_option linter.unusedSimpArgs false
namespace Go.Proofs.YtmofdnlefjfcfaaGreatDoor
open Go.RowKit Go.Lib

def ChkRes (w : World) (p : Option Addr) (o : Ob) : Prop := (chk17 o).2 = 0 → ∃ cb v0 v1 v2 A c As cs m, p = some ⟨cb, 0, none⟩ ∧ ChkP w cb v0 v1 v2 A c As cs m (allI o.code)
theorem isInts_set {W : World} {g : Nat} {t : TypeId} {l : List Value} {v : Value} {L : List Int} (h : IsInts W v L) (r : RowV W g t l) (i : Nat) (hl : ∀ x, l[i]? ≠ some (.int .i64 x)) (u : Value) : IsInts (W.setCell ⟨g, i, none⟩ u) v L :=
 Sl.ext h fun b o x k => ⟨by
  by_cases hb : b = g
  ·subst hb
   have k1 := k.1
   have h1 : l[o]? = some (.int .i64 x) := by
    simp only [World.cell?, show W.heap[b]? = _ from r] at k1
    simpa using k1
   have hne : i ≠ o := fun e => by subst e; exact hl x h1
   exact (r.set i u).cell (by rw [List.getElem?_set_ne hne]; exact h1)
  ·have k1 := k.1
   simp only [World.cell?, World.setCell, Array.getElem?_modify, if_neg (fun e : g = b => hb e.symm)] at k1 ⊢
   exact k1, k.2⟩
theorem run_index_fn (f0 f1 f2 f3 f4 : Value) (W : World) : (Instr.index 133 (.agg #[f0, f1, f2, f3, f4]) (.int .i64 0)).run Tryz.prog W = .ok f0 W ∧ (Instr.index 133 (.agg #[f0, f1, f2, f3, f4]) (.int .i64 1)).run Tryz.prog W = .ok f1 W ∧
  (Instr.index 133 (.agg #[f0, f1, f2, f3, f4]) (.int .i64 2)).run Tryz.prog W = .ok f2 W ∧ (Instr.index 133 (.agg #[f0, f1, f2, f3, f4]) (.int .i64 3)).run Tryz.prog W = .ok f3 W ∧
  (Instr.index 133 (.agg #[f0, f1, f2, f3, f4]) (.int .i64 4)).run Tryz.prog W = .ok f4 W := ⟨by kernel_rfl, by kernel_rfl, by kernel_rfl, by kernel_rfl, by kernel_rfl⟩
set_option maxRecDepth 40000 in
set_option maxHeartbeats 16000000 in
theorem valid_check_any (v : Value) (o : Ob) (w : World) (h : IsOb w v o) (hm : o.maps.length ≤ 100000) (hr : o.rels.length ≤ 1000000) (hG : Glob w) (hN : NoneV w) (hO : OpsN w) (hWd : WidN w) :
  Calls Tryz.prog 42 #[v] w fun e w' => ∃ p, e = .returned (.tuple #[.pointer p, .int .i64 (chk17 o).1, .int .i64 (chk17 o).2]) ∧ ChkRes w' p o ∧ Ext w w' := by
 obtain ⟨A1, c1, A2, c2, A3, c3, rfl, h'⟩ := isOb_form h
 have hbr : IsB w (.slice A2 o.code.length c2) o.code ∧ IsRels w (.slice A3 o.rels.length c3) o.rels := by
  obtain ⟨_, _, _, h1, _, h2, h3⟩ := h'
  injection h1 with h1
  simp only [Array.mk.injEq, List.cons.injEq, and_true] at h1
  obtain ⟨-, rfl, rfl⟩ := h1
  exact ⟨h2, h3⟩
 obtain ⟨hb, hrl⟩ := hbr
 obtain ⟨W0, hW0⟩ : ∃ W0, W0 = w.alloc (.cells #[.slice A1 o.maps.length c1, .slice A2 o.code.length c2, .slice A3 o.rels.length c3] 31) := ⟨_, rfl⟩
 have e0 : Ext w W0 := by rw [hW0]; exact Ext.new _ _
 have r0 : RowO W0 w.heap.size (.slice A1 o.maps.length c1) (.slice A2 o.code.length c2) (.slice A3 o.rels.length c3) := by rw [hW0]; exact rowO_new _ _ _ _
 have hC := object_Check_any _ o W0 (h'.ext e0) hm hr (hG.ext e0) (hN.ext e0)
 have HA := hx fun (W : World) (hW : Ext w W) (hl : o.code.length ≤ 1000000) => slotAll_any _ o.code W (IsB.ext hb hW) hl (hO.ext hW) (hWd.ext hW)
 rw [hW0] at hC
 have HW0 := hx hW0
 have HCH := hx hC
 have HBT := hx (IsB.byt hb)
 have HRL := hx hrl
 have HO := hx hO
 have HRB := hx hr
 clear hW0 hC h h' hb hm hr hG hN hWd hO hrl
 have HCR := hx (show ∀ W p, ChkRes W p o = ((chk17 o).2 = 0 → ∃ cb v0 v1 v2 A c As cs m, p = some ⟨cb, 0, none⟩ ∧ ChkP W cb v0 v1 v2 A c As cs m (allI o.code)) from fun _ _ => rfl)
 by_cases hE : obE o = 0
 ·have hpt := obE_parts hE
  have hco : o.code.length ≤ 524280 := hpt.2.1
  have hne : o.code ≠ [] := fun e => hpt.2.2.2.1 (by rw [e]; rfl)
  have HA2 := hx fun W hW => HA.out W hW (by omega)
  rw [hE] at HCH
  clear HA
  by_cases hE2 : allE o.code = 0
  ·have hLb := allI_len o.code
   have hLb2 : (allI o.code).length ≤ 1000000 := by omega
   have hLn := allI_ne hne hE2
   have HOF := hx (allI_off HBT.out)
   have hOT := allI_slots o.code
   have HRS := hx (chk17_rest hE hE2)
   have HLL := hx fun m' => links_law (rs := o.rels) (M := o.maps.length) (m' := m') (L := allI o.code) hOT (fun i hi => allI_st i hi) (Nat.pos_of_ne_zero hpt.2.2.2.1) hpt.2.2.1 hpt.2.2.2.2
   rw [hE2] at HA2
   generalize allI o.code = L at *
   generalize allAt o.code = AT at *
   obtain ⟨m, hm⟩ : ∃ m, m = L.length := ⟨_, rfl⟩
   have hm1 : m ≤ 1000000 := by omega
   have hm2 : 0 < m := by omega
   have HM := hx hm
   have HLB := hx hLb2
   obtain ⟨n8, hn8⟩ : ∃ n : Nat, n = o.code.length / 8 := ⟨_, rfl⟩
   generalize o.code.length = nc at *
   have HF0 := hx (rest17_0 L o.rels n8)
   have HF1 := hx (rest17_1 L o.rels n8)
   have HF2 := hx (rest17_2 L o.rels n8)
   have HF3 := hx (rest17_3 L o.rels n8)
   have HF4 := hx (rest17_4 L o.rels n8)
   have HF5 := hx (rest17_5 L o.rels n8)
   rw [← hn8] at HRS HLL
   have hms : (startsL L).length = m := by rw [startsL_length, hm]
   clear hm hLb hLb2 hLn hn8 hpt hne hE hE2 hOT
   have H1 : Hx (∀ (W : World) (cb : Nat) (A : Option Addr) (c : Nat) (As : Option Addr) (cs : Nat) (hP : ChkP W cb (.slice A1 o.maps.length c1) (.slice A2 nc c2) (.slice A3 o.rels.length c3) A c As cs m L) (hW : Ext w W), Calls Tryz.prog 75 #[.pointer (some ⟨cb, 0, none⟩)] W fun e w' => e = .returned (.tuple #[.int .i64 (find1 L).1, .int .i64 (find1 L).2]) ∧ Ext W w') := hx fun (W : World) (cb : Nat) (A : Option Addr) (c : Nat) (As : Option Addr) (cs : Nat) (hP : ChkP W cb (.slice A1 o.maps.length c1) (.slice A2 nc c2) (.slice A3 o.rels.length c3) A c As cs m L) (hW : Ext w W) => fields_any cb _ _ _ A c As cs m L W hP hm1 (HO.out.ext hW)
   have H2 : Hx (∀ (W : World) (cb : Nat) (A : Option Addr) (c : Nat) (As : Option Addr) (cs : Nat) (hP : ChkP W cb (.slice A1 o.maps.length c1) (.slice A2 nc c2) (.slice A3 o.rels.length c3) A c As cs m L) (hW : Ext w W), Calls Tryz.prog 76 #[.pointer (some ⟨cb, 0, none⟩)] W fun e w' => e = .returned (.tuple #[.int .i64 (find2 L o.rels n8).1, .int .i64 (find2 L o.rels n8).2]) ∧ Ext W w') := hx fun (W : World) (cb : Nat) (A : Option Addr) (c : Nat) (As : Option Addr) (cs : Nat) (hP : ChkP W cb (.slice A1 o.maps.length c1) (.slice A2 nc c2) (.slice A3 o.rels.length c3) A c As cs m L) (hW : Ext w W) => (links_any cb o A1 c1 A2 nc c2 A3 o.rels.length c3 A c As cs m L W hP hm1 (IsRels.ext HRL.out hW) rfl HRB.out (by omega) (HO.out.ext hW)).mono (R' := fun e w' => e = .returned (.tuple #[.int .i64 (find2 L o.rels n8).1, .int .i64 (find2 L o.rels n8).2]) ∧ Ext W w') fun e w' ⟨⟨m', h1, h2⟩, h3⟩ => by
    rw [HM.out] at h1
    have h4 := HLL.out m' h1
    rw [h4] at h2
    exact ⟨h2, h3⟩
   have H3 : Hx (∀ (W : World) (cb : Nat) (A : Option Addr) (c : Nat) (As : Option Addr) (cs : Nat) (hP : ChkP W cb (.slice A1 o.maps.length c1) (.slice A2 nc c2) (.slice A3 o.rels.length c3) A c As cs m L) (hW : Ext w W), Calls Tryz.prog 77 #[.pointer (some ⟨cb, 0, none⟩)] W fun e w' => e = .returned (.tuple #[.int .i64 (find3 L).1, .int .i64 (find3 L).2]) ∧ Ext W w') := hx fun (W : World) (cb : Nat) (A : Option Addr) (c : Nat) (As : Option Addr) (cs : Nat) (hP : ChkP W cb (.slice A1 o.maps.length c1) (.slice A2 nc c2) (.slice A3 o.rels.length c3) A c As cs m L) (hW : Ext w W) => jumps_any cb _ _ _ A c As cs m L W hP hm1 (HO.out.ext hW) HOF.out
   have H4 : Hx (∀ (W : World) (cb : Nat) (A : Option Addr) (c : Nat) (As : Option Addr) (cs : Nat) (hP : ChkP W cb (.slice A1 o.maps.length c1) (.slice A2 nc c2) (.slice A3 o.rels.length c3) A c As cs m L) (hW : Ext w W), Calls Tryz.prog 78 #[.pointer (some ⟨cb, 0, none⟩)] W fun e w' => e = .returned (.tuple #[.int .i64 (find4 L).1, .int .i64 (find4 L).2]) ∧ Ext W w') := hx fun (W : World) (cb : Nat) (A : Option Addr) (c : Nat) (As : Option Addr) (cs : Nat) (hP : ChkP W cb (.slice A1 o.maps.length c1) (.slice A2 nc c2) (.slice A3 o.rels.length c3) A c As cs m L) (hW : Ext w W) => writes_any cb _ _ _ A c As cs m L W hP hm1 (HO.out.ext hW)
   have H5 : Hx (∀ (W : World) (cb : Nat) (A : Option Addr) (c : Nat) (As : Option Addr) (cs : Nat) (hP : ChkP W cb (.slice A1 o.maps.length c1) (.slice A2 nc c2) (.slice A3 o.rels.length c3) A c As cs m L) (hW : Ext w W), Calls Tryz.prog 79 #[.pointer (some ⟨cb, 0, none⟩)] W fun e w' => e = .returned (.tuple #[.int .i64 (find5 L).1, .int .i64 (find5 L).2]) ∧ Ext W w') := hx fun (W : World) (cb : Nat) (A : Option Addr) (c : Nat) (As : Option Addr) (cs : Nat) (hP : ChkP W cb (.slice A1 o.maps.length c1) (.slice A2 nc c2) (.slice A3 o.rels.length c3) A c As cs m L) (hW : Ext w W) => ends_any cb _ _ _ A c As cs m L W hP hm1 hm2 (HO.out.ext hW)
   have HST := hx fun (W : World) (v : Value) (hW : Ext w W) (hv : IsIns W v L) => Starts_any v L W hv HLB.out (HO.out.ext hW)
   obtain ⟨CH, hCH⟩ : ∃ CH, CH = chk17 o := ⟨_, rfl⟩
   rw [← hCH] at HRS HCR ⊢
   have HCM := hx hCH
   clear hCH HBT HRB HLB HOF HLL HRL
   generalize o.rels.length = nr at *
   generalize o.maps.length = nm at *
   have HMS := hx hms
   clear hms
   obtain ⟨rs, hrs⟩ : ∃ rs, rs = o.rels := ⟨_, rfl⟩
   rw [← hrs] at HF0 HF1 HF2 HF3 HF4 HF5 H2 HRS
   clear hrs
   generalize find1 L = F1 at *
   generalize find2 L rs n8 = F2 at *
   generalize find3 L = F3 at *
   generalize find4 L = F4 at *
   generalize find5 L = F5 at *
   generalize rest17 L rs n8 = rE at *
   generalize ChkRes = CR at *
   go_enter Tryz.func42, Tryz.ntmps42
   go_wp2
   go_step3
   go_wp2_with fail
   refine HCH.out.mono ?_
   rintro e w1 ⟨rfl, e1⟩
   rw [← HW0.out] at e1
   have r1 := r0.ext e1
   have k1 := r1.c1
   clear HCH HW0
   go_wp2_with fail
   refine (HA2.out _ (e0.trans e1)).mono ?_
   rintro e w2 ⟨v2, rfl, i2, e2⟩
   obtain ⟨A4, c4, rfl, -, -, i4⟩ := i2.form
   rw [← HM.out] at i4 ⊢
   have r2 := r1.ext e2
   have q0 := r2.c0
   have q1 := r2.c1
   have q2 := r2.c2
   have E2 := (e0.trans e1).trans e2
   clear HA2 e0 e1 e2 r0 r1 k1 i2
   go_wp2_with fail
   obtain ⟨W3, hW3⟩ : ∃ W3, W3 = w2.alloc (.cells #[.slice A1 nm c1, .slice A2 nc c2, .slice A3 nr c3, .slice A4 m c4, .slice none 0 0] 98) := ⟨_, rfl⟩
   have x3 : Ext w2 W3 := by rw [hW3]; exact Ext.new _ _
   have r3 : RowV W3 w2.heap.size 98 [.slice A1 nm c1, .slice A2 nc c2, .slice A3 nr c3, .slice A4 m c4, .slice none 0 0] := by rw [hW3]; exact RowV.new _ _ _
   rw [← hW3]
   clear hW3 q0 q1 q2
   have hcb := E2.size
   refine (HST.out W3 _ (E2.trans x3) (IsIns.ext i4 x3)).mono ?_
   rintro e w4 ⟨v4, rfl, i5, e4⟩
   obtain ⟨A5, c5, rfl, -, -, i5'⟩ := i5.form
   rw [HMS.out] at i5' ⊢
   have r4 := r3.ext e4
   have p4 := r4.frozen 4
   have p5 := r4.cell (i := 4) rfl
   have x5 : Ext w2 (w4.setCell ⟨w2.heap.size, 4, none⟩ (.slice A5 m c5)) := (x3.trans e4).setCell (a := ⟨w2.heap.size, 4, none⟩) _ (Nat.le_refl _)
   have hP : ChkP (w4.setCell ⟨w2.heap.size, 4, none⟩ (.slice A5 m c5)) w2.heap.size (.slice A1 nm c1) (.slice A2 nc c2) (.slice A3 nr c3) A4 c4 A5 c5 m L := ⟨r4.set 4 (.slice A5 m c5), IsIns.ext i4 x5, isInts_set i5' r4 4 (by simp) _, HM.out⟩
   have E5 := E2.trans x5
   generalize w2.heap.size = cb at *
   have HI := fun W => run_index_fn (.func (.func 75) #[.pointer (some ⟨cb, 0, none⟩)] #[]) (.func (.func 76) #[.pointer (some ⟨cb, 0, none⟩)] #[]) (.func (.func 77) #[.pointer (some ⟨cb, 0, none⟩)] #[]) (.func (.func 78) #[.pointer (some ⟨cb, 0, none⟩)] #[]) (.func (.func 79) #[.pointer (some ⟨cb, 0, none⟩)] #[]) W
   have HII := hx HI
   have HPP := hx hP
   have EE := hx E5
   clear HST HI hP E5 i4 E2 x3 r3 e4 i5 i5' r4 x5 hcb r2
   go_wp2
   go_step3
   go_wp2
   obtain ⟨W5, hW5⟩ : ∃ W5, W5 = w4.setCell ⟨cb, 4, none⟩ (.slice A5 m c5) := ⟨_, rfl⟩
   rw [← hW5] at HPP EE ⊢
   clear hW5 p4 p5
   go_loopw [7, 8, 51] (fun at_ e_ i wr => ∃ (k : Nat) (a : Int), k ≤ 5 ∧ i = .int .i64 (k : Nat) ∧ e_ = .int .i64 0 ∧ at_ = .int .i64 a ∧ CH = rE k ∧ Ext W5 wr) (fun _ _ i _ => 5 - (RowKit.intOf i).toNat)
   case atStart => exact ⟨0, _, by omega, rfl, rfl, rfl, HRS.out, Ext.refl _⟩
   case round =>
    obtain ⟨k, a, hk, rfl, rfl, rfl, hch, he⟩ := hrel
    have HK := hx hch
    have HE := hx he
    clear hch he
    rcases k with _ | _ | _ | _ | _ | _ | k
    ·have hI := fun W => (HII.out W).1
     have HQ := hx (H1.out wr cb A4 c4 A5 c5 ⟨HPP.out.1.ext HE.out, IsIns.ext HPP.out.2.1 HE.out, IsInts.ext HPP.out.2.2.1 HE.out, HPP.out.2.2.2⟩ (EE.out.trans HE.out))
     obtain ⟨fa, fe⟩ := F1
     dsimp only at HF0 HQ
     by_cases hz : fe = 0
     ·subst hz
      go_wp2_with fail
      refine HQ.out.mono ?_
      rintro e v ⟨rfl, ev⟩
      have Y := hx (HE.out.trans ev)
      clear ev
      go_wp2
      go_roundw
      case rel => exact ⟨1, fa, by omega, rfl, rfl, rfl, by rw [HK.out, HF0.out]; rfl, Y.out⟩
      case measure => simp [RowKit.intOf]
     ·have hz' : (fe != 0) = true := by simpa using hz
      have HZ := hx hz
      clear hz
      go_wp2_with fail
      refine HQ.out.mono ?_
      rintro e v ⟨rfl, ev⟩
      have Y := hx (EE.out.trans (HE.out.trans ev))
      clear ev
      go_wp2
      try rw [Exit.noGoto_ret]
      refine bodyPost_ret (results_tmp3 rfl _ _ _) rfl ?_
      have hc : CH = (fa, fe) := by rw [HK.out, HF0.out, if_neg HZ.out]
      refine ⟨none, by rw [hc]; rfl, ?_, Y.out⟩
      rw [HCR.out]
      intro h0
      rw [hc] at h0
      exact absurd h0 HZ.out
    ·have hI := fun W => (HII.out W).2.1
     have HQ := hx (H2.out wr cb A4 c4 A5 c5 ⟨HPP.out.1.ext HE.out, IsIns.ext HPP.out.2.1 HE.out, IsInts.ext HPP.out.2.2.1 HE.out, HPP.out.2.2.2⟩ (EE.out.trans HE.out))
     obtain ⟨fa, fe⟩ := F2
     dsimp only at HF1 HQ
     by_cases hz : fe = 0
     ·subst hz
      go_wp2_with fail
      refine HQ.out.mono ?_
      rintro e v ⟨rfl, ev⟩
      have Y := hx (HE.out.trans ev)
      clear ev
      go_wp2
      go_roundw
      case rel => exact ⟨2, fa, by omega, rfl, rfl, rfl, by rw [HK.out, HF1.out]; rfl, Y.out⟩
      case measure => simp [RowKit.intOf]
     ·have hz' : (fe != 0) = true := by simpa using hz
      have HZ := hx hz
      clear hz
      go_wp2_with fail
      refine HQ.out.mono ?_
      rintro e v ⟨rfl, ev⟩
      have Y := hx (EE.out.trans (HE.out.trans ev))
      clear ev
      go_wp2
      try rw [Exit.noGoto_ret]
      refine bodyPost_ret (results_tmp3 rfl _ _ _) rfl ?_
      have hc : CH = (fa, fe) := by rw [HK.out, HF1.out, if_neg HZ.out]
      refine ⟨none, by rw [hc]; rfl, ?_, Y.out⟩
      rw [HCR.out]
      intro h0
      rw [hc] at h0
      exact absurd h0 HZ.out
    ·have hI := fun W => (HII.out W).2.2.1
     have HQ := hx (H3.out wr cb A4 c4 A5 c5 ⟨HPP.out.1.ext HE.out, IsIns.ext HPP.out.2.1 HE.out, IsInts.ext HPP.out.2.2.1 HE.out, HPP.out.2.2.2⟩ (EE.out.trans HE.out))
     obtain ⟨fa, fe⟩ := F3
     dsimp only at HF2 HQ
     by_cases hz : fe = 0
     ·subst hz
      go_wp2_with fail
      refine HQ.out.mono ?_
      rintro e v ⟨rfl, ev⟩
      have Y := hx (HE.out.trans ev)
      clear ev
      go_wp2
      go_roundw
      case rel => exact ⟨3, fa, by omega, rfl, rfl, rfl, by rw [HK.out, HF2.out]; rfl, Y.out⟩
      case measure => simp [RowKit.intOf]
     ·have hz' : (fe != 0) = true := by simpa using hz
      have HZ := hx hz
      clear hz
      go_wp2_with fail
      refine HQ.out.mono ?_
      rintro e v ⟨rfl, ev⟩
      have Y := hx (EE.out.trans (HE.out.trans ev))
      clear ev
      go_wp2
      try rw [Exit.noGoto_ret]
      refine bodyPost_ret (results_tmp3 rfl _ _ _) rfl ?_
      have hc : CH = (fa, fe) := by rw [HK.out, HF2.out, if_neg HZ.out]
      refine ⟨none, by rw [hc]; rfl, ?_, Y.out⟩
      rw [HCR.out]
      intro h0
      rw [hc] at h0
      exact absurd h0 HZ.out
    ·have hI := fun W => (HII.out W).2.2.2.1
     have HQ := hx (H4.out wr cb A4 c4 A5 c5 ⟨HPP.out.1.ext HE.out, IsIns.ext HPP.out.2.1 HE.out, IsInts.ext HPP.out.2.2.1 HE.out, HPP.out.2.2.2⟩ (EE.out.trans HE.out))
     obtain ⟨fa, fe⟩ := F4
     dsimp only at HF3 HQ
     by_cases hz : fe = 0
     ·subst hz
      go_wp2_with fail
      refine HQ.out.mono ?_
      rintro e v ⟨rfl, ev⟩
      have Y := hx (HE.out.trans ev)
      clear ev
      go_wp2
      go_roundw
      case rel => exact ⟨4, fa, by omega, rfl, rfl, rfl, by rw [HK.out, HF3.out]; rfl, Y.out⟩
      case measure => simp [RowKit.intOf]
     ·have hz' : (fe != 0) = true := by simpa using hz
      have HZ := hx hz
      clear hz
      go_wp2_with fail
      refine HQ.out.mono ?_
      rintro e v ⟨rfl, ev⟩
      have Y := hx (EE.out.trans (HE.out.trans ev))
      clear ev
      go_wp2
      try rw [Exit.noGoto_ret]
      refine bodyPost_ret (results_tmp3 rfl _ _ _) rfl ?_
      have hc : CH = (fa, fe) := by rw [HK.out, HF3.out, if_neg HZ.out]
      refine ⟨none, by rw [hc]; rfl, ?_, Y.out⟩
      rw [HCR.out]
      intro h0
      rw [hc] at h0
      exact absurd h0 HZ.out
    ·have hI := fun W => (HII.out W).2.2.2.2
     have HQ := hx (H5.out wr cb A4 c4 A5 c5 ⟨HPP.out.1.ext HE.out, IsIns.ext HPP.out.2.1 HE.out, IsInts.ext HPP.out.2.2.1 HE.out, HPP.out.2.2.2⟩ (EE.out.trans HE.out))
     obtain ⟨fa, fe⟩ := F5
     dsimp only at HF4 HQ
     by_cases hz : fe = 0
     ·subst hz
      go_wp2_with fail
      refine HQ.out.mono ?_
      rintro e v ⟨rfl, ev⟩
      have Y := hx (HE.out.trans ev)
      clear ev
      go_wp2
      go_roundw
      case rel => exact ⟨5, fa, by omega, rfl, rfl, rfl, by rw [HK.out, HF4.out]; rfl, Y.out⟩
      case measure => simp [RowKit.intOf]
     ·have hz' : (fe != 0) = true := by simpa using hz
      have HZ := hx hz
      clear hz
      go_wp2_with fail
      refine HQ.out.mono ?_
      rintro e v ⟨rfl, ev⟩
      have Y := hx (EE.out.trans (HE.out.trans ev))
      clear ev
      go_wp2
      try rw [Exit.noGoto_ret]
      refine bodyPost_ret (results_tmp3 rfl _ _ _) rfl ?_
      have hc : CH = (fa, fe) := by rw [HK.out, HF4.out, if_neg HZ.out]
      refine ⟨none, by rw [hc]; rfl, ?_, Y.out⟩
      rw [HCR.out]
      intro h0
      rw [hc] at h0
      exact absurd h0 HZ.out
    ·have hc : CH = (0, 0) := by rw [HK.out, HF5.out]
     have HC := hx hc
     clear hc
     go_wp2
     try rw [Exit.noGoto_ret]
     refine bodyPost_ret (results_tmp3 rfl _ _ _) rfl ?_
     refine ⟨some ⟨cb, 0, none⟩, by rw [HC.out]; rfl, ?_, EE.out.trans HE.out⟩
     rw [HCR.out]
     exact fun _ => ⟨cb, _, _, _, A4, c4, A5, c5, m, rfl, HPP.out.1.ext HE.out, IsIns.ext HPP.out.2.1 HE.out, IsInts.ext HPP.out.2.2.1 HE.out, HPP.out.2.2.2⟩
    ·exact absurd hk (by omega)
  ·have hc := chk17_all hE hE2
   have hz : (allE o.code != 0) = true := by simpa using hE2
   have HZ := hx hE2
   have HCC := hx hc
   have HCP := hx (show ∀ W, ChkRes W none o from fun W h0 => absurd (by rw [hc] at h0; exact h0) hE2)
   rw [HCC.out]
   clear hE hc hpt hco hne hE2 HCR HCC HRL HRB HBT
   generalize allE o.code = AE at *
   generalize allAt o.code = AT at *
   generalize o.maps.length = nm at *
   generalize o.rels.length = nr at *
   generalize o.code.length = nc at *
   generalize ChkRes = CR at *
   go_enter Tryz.func42, Tryz.ntmps42
   go_wp2
   go_step3
   go_wp2_with fail
   refine HCH.out.mono ?_
   rintro e w1 ⟨rfl, e1⟩
   rw [← HW0.out] at e1
   have r1 := r0.ext e1
   have k1 := r1.c1
   clear HCH HW0
   go_wp2_with fail
   refine (HA2.out _ (e0.trans e1)).mono ?_
   rintro e w2 ⟨v2, rfl, -, e2⟩
   have E2 := hx ((e0.trans e1).trans e2)
   clear HA2 k1 e2 e1
   go_wp2
   try rw [Exit.noGoto_ret]
   refine bodyPost_ret (results_tmp3 rfl _ _ _) rfl ?_
   exact ⟨none, rfl, HCP.out _, E2.out⟩
 ·have hc := chk17_ob hE
  have hz : (obE o != 0) = true := by simpa using hE
  have HCC := hx hc
  have HCP := hx (show ∀ W, ChkRes W none o from fun W h0 => absurd (by rw [hc] at h0; exact h0) hE)
  rw [HCC.out]
  clear hE hc HCR HCC HRL HRB HBT HA
  generalize obE o = OE at *
  generalize o.maps.length = nm at *
  generalize o.rels.length = nr at *
  generalize o.code.length = nc at *
  generalize ChkRes = CR at *
  go_enter Tryz.func42, Tryz.ntmps42
  go_wp2
  go_step3
  go_wp2_with fail
  refine HCH.out.mono ?_
  rintro e w1 ⟨rfl, e1⟩
  rw [← HW0.out] at e1
  have E2 := hx (e0.trans e1)
  clear HCH HW0 e1
  go_wp2
  try rw [Exit.noGoto_ret]
  refine bodyPost_ret (results_tmp3 rfl _ _ _) rfl ?_
  exact ⟨none, rfl, HCP.out _, E2.out⟩
end Go.Proofs.YtmofdnlefjfcfaaGreatDoor
