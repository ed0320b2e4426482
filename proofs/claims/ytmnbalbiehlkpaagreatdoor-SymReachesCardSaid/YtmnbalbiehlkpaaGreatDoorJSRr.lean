/- The layer sym, the reference: Reached. -/
import Derived.Test.YtmnbalbiehlkpaaGreatDoorJResS
import Derived.Test.YtmnbalbiehlkpaaGreatDoorJStmR
set_option linter.unusedVariables false
set_option linter.unusedSimpArgs false
namespace Go.Proofs.YtmnbalbiehlkpaaGreatDoor
open Go.RowKit Go.Lib

def idxT (s : List Bool) (k : Nat) : List Int := (List.range k).flatMap fun i => if at24 s i then [(i : Int)] else []
theorem idxT_succ (s : List Bool) (k : Nat) : idxT s (k + 1) = idxT s k ++ if at24 s k then [(k : Int)] else [] := by
  unfold idxT
  rw [List.range_succ, List.flatMap_append]
  simp
theorem idxT_len (s : List Bool) (k : Nat) : (idxT s k).length ≤ k := by
  induction k with
  | zero => simp [idxT]
  | succ k ih =>
    rw [idxT_succ, List.length_append]
    split <;> simp <;> omega
/-- The statements of a program that can be reached. -/
def reach24 (M : List Def) (L : List Stmt) : List Int := if (pchk M L).2 = 0 then idxT (rounds24 L L.length) L.length else []
theorem at24_get {s : List Bool} {k m : Nat} (hm : m = s.length) (hk : k < m) : s[k]? = some (at24 s k) := by
  unfold at24
  rw [List.getD_eq_getElem?_getD, List.getElem?_eq_getElem (by omega)]
  rfl
theorem tos24_get {L : List Stmt} {k m : Nat} (hm : m = L.length) (hk : k < m) : (tos24 L)[k]? = some (to24 L k) := by
  unfold tos24
  rw [List.getElem?_map, List.getElem?_range (by omega)]
  rfl
theorem idxT_i64 {s : List Bool} {k : Nat} (hk : k ≤ 1000000) : ∀ x ∈ idxT s k, I64 x := by
  intro x hx
  unfold idxT at hx
  obtain ⟨i, hi, hx⟩ := List.mem_flatMap.1 hx
  have hi' : i < k := by simpa using hi
  split at hx
  · obtain rfl : x = (i : Int) := by simpa using hx
    unfold I64; omega
  · cases hx
set_option maxRecDepth 40000 in
set_option maxHeartbeats 16000000 in
theorem refReached_any (A1 A2 : Option Addr) (m1 c1 m c2 : Nat) (M : List Def) (L : List Stmt) (w : World) (hm1 : m1 = M.length) (hm1l : m1 ≤ 100000) (hm : m = L.length) (hml : m ≤ 1000000) (hd : IsDefs w (.slice A1 m1 c1) M) (hv : IsStmts w (.slice A2 m c2) L) (hfl : (flat L).length ≤ 1000000) :
    Calls Tryz.prog 17 #[.agg #[.slice A1 m1 c1, .slice A2 m c2]] w fun e w' => ∃ v, e = .returned v ∧ IsInts w' v (reach24 M L) ∧ Ext w w' := by
  obtain ⟨W0, hW0⟩ : ∃ W0, W0 = w.alloc (.cells #[.slice A1 m1 c1, .slice A2 m c2] 25) := ⟨_, rfl⟩
  have e0 : Ext w W0 := by rw [hW0]; exact Ext.new w _
  have rP : RowV W0 w.heap.size 25 [.slice A1 m1 c1, .slice A2 m c2] := by rw [hW0]; exact RowV.new _ _ _
  have hCK := refCheck10_any A1 A2 m1 c1 m c2 M L W0 hm1 hm1l hm hml (IsDefs.ext hd e0) (IsStmts.ext hv e0) hfl
  have HCD := hx fun (W : World) (hW : Ext w W) => refCode24_any A1 A2 m1 c1 m c2 M L W hm1 hm1l hm hml (IsDefs.ext hd hW) (IsStmts.ext hv hW) hfl
  have HM := hx hm
  rw [hW0] at hCK
  have HCK := hx hCK
  have HW0 := hx hW0
  have HGD := hx (show (pchk M L).2 = 0 → Good24 L ∧ 0 < m from fun h => ⟨good24 h (pchk_pos h), by rw [hm]; exact pchk_pos h⟩)
  have HR := hx (show reach24 M L = if (pchk M L).2 = 0 then idxT (rounds24 L m) m else [] by rw [hm]; rfl)
  have HTB := hx (to24_bd L)
  generalize reach24 M L = R at *
  generalize pchk M L = PC at *
  clear hm hm1 hfl hCK hW0 hd
  obtain ⟨pa, pe⟩ := PC
  dsimp only at *
  by_cases hz : pe = 0
  · subst hz
    have HR2 := hx (HR.out.trans (if_pos rfl))
    obtain ⟨hgd, hpos⟩ := HGD.out rfl
    have HG := hx hgd
    clear HR HGD hgd
    go_enter Tryz.func17, Tryz.ntmps17
    go_wp2_with fail
    refine HCK.out.mono ?_
    rintro e w1 ⟨rfl, e1⟩
    rw [← HW0.out] at e1
    have r1 := rP.ext e1
    have q0 := r1.cell (i := 0) rfl
    have q1 := r1.cell (i := 1) rfl
    have E1 := e0.trans e1
    clear HCK HW0 rP e0 e1
    go_wp2_with fail
    refine (HCD.out _ E1).mono ?_
    rintro e w2 ⟨v1, v2, rfl, -, i2, e2⟩
    obtain ⟨B2, b2, rfl, -, -, i2'⟩ := i2.form
    have htl : (tos24 L).length = m := by unfold tos24; rw [List.length_map, List.length_range, HM.out]
    rw [htl] at i2'
    try rw [htl]
    have r2 := r1.ext e2
    have E2 := E1.trans e2
    have q1' := r2.cell (i := 1) rfl
    obtain ⟨W3, hrun, ob3, hg3⟩ := makeBo w2 w2.heap.size m hml (Nat.le_refl _)
    have e3 : Ext w2 W3 := (Ext.refl w2).grown hg3 (fun k hk => by cases hk)
    obtain ⟨ob4, hg4⟩ := ob3.put (by simp) 0 true
    have e4 : Ext w2 (W3.setCell ⟨w2.heap.size, 0, none⟩ (.bool true)) := e3.grown hg4 (fun k hk => by cases hk; exact Nat.le_refl _)
    have z0 := ob3.get (k := 0) (b := false) (by simp) (by simp [hpos])
    have zf := Own.frz ob3 0
    have hpos' : (0 : Int) < (m : Int) := by omega
    have q1'' := e3.cell q1'
    have hr0 : (List.replicate m false).set 0 true = rounds24 L 0 := by rw [rounds24, HM.out]
    rw [hr0] at ob4
    clear HCD i2 e2 E1 r1 q0 q1 ob3 hg3 hg4 hr0 htl
    obtain ⟨g, hg⟩ : ∃ g, g = w2.heap.size := ⟨_, rfl⟩
    obtain ⟨b', o', hB2, -⟩ := i2'.get (i := 0) (x := to24 L 0) (tos24_get HM.out hpos)
    subst hB2
    have HT := hx fun (k : Nat) (hk : k < m) (W : World) (hW : Ext w2 W) => show W.cell? ⟨b', o' + k, none⟩ = some (.int .i64 (to24 L k)) from by
      obtain ⟨b1, o1, hb, h1, -⟩ := i2'.get (i := k) (x := to24 L k) (tos24_get HM.out hk)
      injection hb with hb
      injection hb with h2 h3 _
      subst h2 h3
      rw [Nat.mul_one] at h1
      exact hW.cell h1
    have HST := hx fun (k : Nat) (hk : k < m) (W : World) (hW : Ext w2 W) => show ∃ b o, A2 = some ⟨b, o, none⟩ ∧ W.cell? ⟨b, o + k * 9 + 1, none⟩ = some (.int .i64 (L.getD k default).ins.op) ∧ I64 (L.getD k default).ins.op from by
      have hs0 : L[k]? = some (L.getD k default) := by rw [List.getD_eq_getElem?_getD, List.getElem?_eq_getElem (by rw [← HM.out]; exact hk)]; rfl
      obtain ⟨b, o, hAA, vl, d0, dl, ⟨d1, _⟩, dok, _⟩ := (IsStmts.ext hv (E2.trans hW)).get hs0
      exact ⟨b, o, hAA, d1, dok.op⟩
    have R2 := hx r2
    have E2H := hx E2
    have HG2 := hx hg
    rw [← hg] at ob4
    rw [← hg] at e4
    clear i2' r2 hg E2 hv
    go_wp2
    rw [← HG2.out]
    clear q1' q1'' z0 zf hrun e3
    go_loopw [8] (fun i wr => ∃ r : Nat, r ≤ m ∧ i = .int .i64 (r : Nat) ∧ OwnBo wr g (.slice (some ⟨g, 0, none⟩) m m) (rounds24 L r) ∧ Ext w2 wr) (fun i _ => m - (RowKit.intOf i).toNat)
    case atStart => exact ⟨0, by omega, rfl, ob4, e4⟩
    case round =>
      clear ob4 e4
      obtain ⟨r, hr, rfl, ow, er⟩ := hrel
      have q1 := (R2.out.ext er).cell (i := 1) rfl
      by_cases hlt : r < m
      · have hkm : (r : Int) < (m : Int) := by omega
        have OW := hx ow
        have ER := hx er
        have HLT := hx hlt
        clear ow er hlt
        go_wp2
        go_loopw [9] (fun i wi => ∃ k : Nat, k ≤ m ∧ i = .int .i64 (k : Nat) ∧ OwnBo wi g (.slice (some ⟨g, 0, none⟩) m m) (pass24 L k (rounds24 L r)) ∧ Ext w2 wi) (fun i _ => m - (RowKit.intOf i).toNat)
        case atStart => exact ⟨0, by omega, rfl, OW.out, ER.out⟩
        case round =>
          obtain ⟨k, hk, rfl, oi, ei⟩ := hrel
          have p1 := (R2.out.ext ei).cell (i := 1) rfl
          have hpl : (pass24 L k (rounds24 L r)).length = m := by rw [pass24_len, rounds24_len, HM.out]
          have hps : pass24 L (k + 1) (rounds24 L r) = stepB L (stepA L (pass24 L k (rounds24 L r)) k) k := rfl
          obtain ⟨s, hs⟩ : ∃ s, s = pass24 L k (rounds24 L r) := ⟨_, rfl⟩
          rw [← hs] at hps hpl oi
          have HPS := hx hps
          have HPL := hx hpl
          have HSE := hx hs
          clear hps hpl hs
          by_cases hlt2 : k < m
          · have hkm2 : (k : Int) < (m : Int) := by omega
            obtain ⟨b, o, rfl, d1, dop⟩ := HST.out k hlt2 wr ei
            have t1 := HT.out k hlt2 wr ei
            have b1 := oi.get HPL.out.symm (at24_get HPL.out.symm hlt2)
            have HF0 := fun (W : World) => refForm_any (L.getD k default).ins.op W dop
            rw [← formN_eq] at HF0
            have HF := hx HF0
            have hfl : fall24 L k = (!(formN (L.getD k default).ins.op == 3) && !(formN (L.getD k default).ins.op == 6)) := by
              unfold fall24 endsX
              generalize formN (L.getD k default).ins.op = F
              by_cases h3 : F = 3
              · simp [h3]
              · by_cases h6 : F = 6
                · simp [h6]
                · simp [h3, h6]
            have htb := HG.out.lt k (by rw [← HM.out]; exact hlt2)
            have HA := hx (show stepA L s k = if (at24 s k && decide (0 ≤ to24 L k)) = true then s.set (to24 L k).toNat true else s from by unfold stepA; simp)
            have HB := hx (show ∀ u : List Bool, u.length = m → stepB L u k = if (at24 u k && (fall24 L k && decide (k + 1 < m))) = true then u.set (k + 1) true else u from fun u hu => by unfold stepB; rw [hu]; simp)
            rw [hfl] at HB
            rw [← HM.out] at htb
            have HPA := hx (show (stepA L s k).length = m by rw [stepA_len, HPL.out])
            generalize stepA L s k = s1 at *
            generalize formN (L.getD k default).ins.op = F at *
            generalize (L.getD k default).ins.op = op at *
            obtain ⟨T, hT⟩ : ∃ T, T = to24 L k := ⟨_, rfl⟩
            rw [← hT] at t1 HA htb
            obtain ⟨S, hS⟩ : ∃ S, S = at24 s k := ⟨_, rfl⟩
            rw [← hS] at b1 HA
            have OI := hx oi
            have EI := hx ei
            have HLT2 := hx hlt2
            have HTM := hx htb
            clear HF0 hfl hT hS oi ei dop hlt2 htb q1
            go_upto_region 14 with (go_at_call 33; refine (HF.out _).mono ?_; rintro e w' ⟨rfl, hw'⟩; rw [hw']; clear hw')
            go_cut [63] (fun v wx => v = .bool (S && decide (0 ≤ T)) ∧ wx = wr)
            case first =>
              cases S with
              | false =>
                go_wp2
                go_meet
                exact ⟨by simp, rfl⟩
              | true =>
                by_cases h0 : 0 ≤ T
                · go_wp2
                  go_meet
                  exact ⟨by simp [h0], rfl⟩
                · go_wp2
                  go_meet
                  exact ⟨by simp [h0], rfl⟩
            case rest =>
            obtain ⟨rfl, hwc⟩ := hcut
            rw [hwc]
            clear hwc
            go_upto_if 63 with fail
            go_cut [] (fun wx => OwnBo wx g (.slice (some ⟨g, 0, none⟩) m m) s1 ∧ Ext w2 wx)
            case first =>
              cases hD : (S && decide (0 ≤ T)) with
              | false =>
                have hs1 : s1 = s := by have h := HA.out; rw [hD] at h; simpa using h
                have HS1 := hx hs1
                clear hs1
                go_wp2
                go_meet
                exact ⟨by rw [HS1.out]; exact OI.out, EI.out⟩
              | true =>
                have hs1 : s1 = s.set T.toNat true := by have h := HA.out; rw [hD] at h; simpa using h
                have h0 : 0 ≤ T := by simp at hD; exact hD.2
                obtain ⟨tn, rfl⟩ := Int.eq_ofNat_of_zero_le h0
                have htn : tn < m := by have := HTM.out; omega
                have htn2 : (tn : Int) < (m : Int) := by omega
                have z1 := Own.frz OI.out tn
                have y1 := OI.out.get HPL.out.symm (at24_get HPL.out.symm htn)
                obtain ⟨o1, g1⟩ := OI.out.put HPL.out.symm tn true
                have HS1 := hx hs1
                have O1 := hx o1
                have G1 := hx g1
                clear hs1 o1 g1
                go_wp2
                go_meet
                exact ⟨by rw [HS1.out]; exact O1.out, EI.out.grown G1.out (fun k hk => by cases hk; rw [HG2.out]; exact Nat.le_refl _)⟩
            case rest =>
              obtain ⟨o1, e1⟩ := hcut
              obtain ⟨S1, hS1⟩ : ∃ S1, S1 = at24 s1 k := ⟨_, rfl⟩
              have b2 := o1.get HPA.out.symm (at24_get HPA.out.symm HLT2.out)
              rw [← hS1] at b2
              have HB1 := hx (HB.out s1 HPA.out)
              rw [← hS1] at HB1
              obtain ⟨wq, hwq⟩ : ∃ x, x = wc := ⟨_, rfl⟩
              subst hwq
              have O1 := hx o1
              have E1 := hx e1
              clear hS1 o1 e1 t1 b1 p1 d1 HB HF
              go_upto_region 16 with fail
              go_cut [88] (fun v wx => v = .bool (S1 && (!F == 3 && !F == 6 && decide (k + 1 < m))) ∧ wx = wq)
              case first =>
                cases S1 with
                | false =>
                  go_wp2
                  go_meet
                  exact ⟨by simp, rfl⟩
                | true =>
                  by_cases h3 : F = 3
                  · subst h3
                    go_wp2
                    go_meet
                    exact ⟨by simp, rfl⟩
                  · have n3 : (F != 3) = true := by simp [h3]
                    have n3' : (F == 3) = false := by simp [h3]
                    by_cases h6 : F = 6
                    · subst h6
                      go_wp2
                      go_meet
                      exact ⟨by simp, rfl⟩
                    · have n6 : (F != 6) = true := by simp [h6]
                      have n6' : (F == 6) = false := by simp [h6]
                      by_cases hk1 : k + 1 < m
                      · have hk2 : (k : Int) + 1 < (m : Int) := by omega
                        have HK1 := hx hk1
                        clear hk1
                        go_wp2
                        go_meet
                        exact ⟨by rw [decide_eq_true HK1.out, n3', n6']; rfl, rfl⟩
                      · have hk2 : ¬ (k : Int) + 1 < (m : Int) := by omega
                        have HK1 := hx hk1
                        clear hk1
                        go_wp2
                        go_meet
                        exact ⟨by rw [decide_eq_false HK1.out]; simp, rfl⟩
              case rest =>
              obtain ⟨rfl, hwc⟩ := hcut
              rw [hwc]
              clear hwc
              cases hD : (S1 && (!F == 3 && !F == 6 && decide (k + 1 < m))) with
              | false =>
                have hs2 : stepB L s1 k = s1 := by have h := HB1.out; rw [hD] at h; simpa using h
                have HS2 := hx hs2
                clear hs2
                go_wp2
                go_roundw
                case rel => exact ⟨k + 1, by have := HLT2.out; omega, by go_num, by rw [HPS.out, HS2.out]; exact O1.out, E1.out⟩
                case measure => simp [RowKit.intOf]; have := HLT2.out; omega
              | true =>
                have hs2 : stepB L s1 k = s1.set (k + 1) true := by have h := HB1.out; rw [hD] at h; simpa using h
                have hk1 : k + 1 < m := by simp at hD; exact hD.2.2
                have hk2 : (k : Int) + 1 < (m : Int) := by omega
                have z1 := Own.frz O1.out (k + 1)
                have y1 := O1.out.get HPA.out.symm (at24_get HPA.out.symm hk1)
                obtain ⟨o2, g2⟩ := O1.out.put HPA.out.symm (k + 1) true
                have HS2 := hx hs2
                have O2 := hx o2
                have G2 := hx g2
                clear hs2 o2 g2 hk1
                go_wp2
                go_roundw
                case rel => exact ⟨k + 1, by have := HLT2.out; omega, by go_num, by rw [HPS.out, HS2.out]; exact O2.out, E1.out.grown G2.out (fun k hk => by cases hk; rw [HG2.out]; exact Nat.le_refl _)⟩
                case measure => simp [RowKit.intOf]; have := HLT2.out; omega
          · obtain rfl : m = k := by omega
            have OI := hx oi
            have EI := hx ei
            have HLT3 := hx hlt2
            clear oi ei hlt2
            go_wp2
            go_roundw
            case rel => exact ⟨r + 1, by have := HLT.out; omega, by go_num, by rw [rounds24, ← HM.out, ← HSE.out]; exact OI.out, EI.out⟩
            case measure => simp [RowKit.intOf]; have := HLT.out; omega
      · obtain rfl : m = r := by omega
        have HSL := hx (rounds24_len L m)
        generalize rounds24 L m = S at *
        have OW := hx ow
        have ER := hx er
        clear ow er hlt HST
        go_wp2
        go_loopw [11, 12] (fun vo i wi => ∃ j : Nat, j ≤ m ∧ i = .int .i64 (j : Nat) ∧ OwnI wi w2.heap.size vo (idxT S j) ∧ OwnBo wi g (.slice (some ⟨g, 0, none⟩) m m) S ∧ Ext w2 wi) (fun _ i _ => m - (RowKit.intOf i).toNat)
        case atStart => exact ⟨0, by omega, rfl, Own.nil _ _ _ _ _, OW.out, ER.out⟩
        case round =>
          clear OW ER
          obtain ⟨j, hj, rfl, ov, ob, ei⟩ := hrel
          obtain ⟨A3, c3, rfl⟩ := ov.slice
          have HSL2 := hx (HSL.out.trans HM.out.symm)
          by_cases hlt : j < m
          · have hkm : (j : Int) < (m : Int) := by omega
            have b1 := ob.get HSL2.out.symm (at24_get HSL2.out.symm hlt)
            have hsc := idxT_succ S j
            have H8 := hx (show ((idxT S j).length + 1) * 8 ≤ 140737488355328 by have := idxT_len S j; omega)
            have HB2 := hx ei.size
            have HLT := hx hlt
            have OB := hx ob
            have EI := hx ei
            cases hS : at24 S j with
            | false =>
              rw [hS] at b1 hsc
              have HSC := hx hsc
              have OV := hx ov
              clear hsc hS ov ob ei hlt
              go_wp2
              go_roundw
              case rel => exact ⟨j + 1, by have := HLT.out; omega, by go_num, by rw [HSC.out]; simpa using OV.out, OB.out, EI.out⟩
              case measure => simp [RowKit.intOf]; have := HLT.out; omega
            | true =>
              rw [hS] at b1 hsc
              have HSC := hx hsc
              have HNE := hx (Own.type_ne ob ov (by decide))
              clear hsc hS ob ei hlt
              generalize idxT S j = I at *
              go_wp2_with (at_builtin; refine wp_app1 tyI encI_ok ov (j : Int) rfl rfl rfl rfl rfl HB2.out (by decide) H8.out ?_; intro g1 cap1 w3 os3 hg3 hat3 hbg3
                           have HOB := hx (OB.out.kept hg3 HNE.out)
                           have HEI := hx (EI.out.grown hg3 ov.base_le)
                           clear hg3 hat3 ov)
              go_roundw
              case rel => exact ⟨j + 1, by have := HLT.out; omega, by go_num, by rw [HSC.out]; exact os3, HOB.out, HEI.out⟩
              case measure => simp [RowKit.intOf]; have := HLT.out; omega
          · obtain rfl : m = j := by omega
            have OV := hx ov
            have EI := hx ei
            have HLT3 := hx hlt
            clear ov ob ei hlt
            go_wp2
            go_ret
            exact ⟨_, rfl, by rw [HR2.out]; exact OV.out.read (idxT_i64 hml) (by have := idxT_len S m; omega), E2H.out.trans EI.out⟩
  · have HR2 := hx (HR.out.trans (if_neg hz))
    have dz : (pe != 0) = true := by simp [hz]
    have HZ := hx hz
    clear HR HGD hz
    go_enter Tryz.func17, Tryz.ntmps17
    go_wp2_with fail
    refine HCK.out.mono ?_
    rintro e w1 ⟨rfl, e1⟩
    rw [← HW0.out] at e1
    have E1 := hx (e0.trans e1)
    clear HCK HW0 rP e0 e1
    go_wp2
    go_ret
    exact ⟨_, rfl, by rw [HR2.out]; exact Sl.nil _, E1.out⟩
end Go.Proofs.YtmnbalbiehlkpaaGreatDoor
