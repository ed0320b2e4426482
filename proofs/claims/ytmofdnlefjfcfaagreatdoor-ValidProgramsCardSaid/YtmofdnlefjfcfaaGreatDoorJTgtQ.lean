/- The layer valid: Targets of the program. -/
import Derived.Test.YtmofdnlefjfcfaaGreatDoorJTgtR
import Derived.Deep.RegionHeld3
import Derived.Test.YtmofdnlefjfcfaaGreatDoorJRegP
import Derived.Maps.RangeWalk
import Derived.Test.YtmofdnlefjfcfaaGreatDoorJOPar
set_option linter.unusedVariables false
set_option linter.unusedSimpArgs false
namespace Go.Proofs.YtmofdnlefjfcfaaGreatDoor
open Go.RowKit Go.Lib

/-- The first index from k on that starts at a slot. -/
def pK (L : List Ins) (k : Nat) (s : Int) : Option Int := (List.range' k (L.length - k)).findSome? (fun i => if slotsT (L.take i) = s then some (i : Int) else none)
theorem pK_end (L : List Ins) (s : Int) : pK L L.length s = none := by unfold pK; rw [Nat.sub_self]; rfl
theorem pK_step {L : List Ins} {k : Nat} (hk : k < L.length) (s : Int) : pK L k s = if s = slotsT (L.take k) then some (k : Int) else pK L (k + 1) s := by
 unfold pK
 have e : L.length - k = (L.length - (k + 1)) + 1 := by omega
 rw [e, List.range'_succ, List.findSome?_cons]
 by_cases h : slotsT (L.take k) = s
 ·rw [if_pos h, if_pos h.symm]
 ·rw [if_neg h, if_neg (fun e => h e.symm)]
theorem pK_zero (L : List Ins) (s : Int) : atN L s = (pK L 0 s).getD (-1) := by
 unfold atN pK
 rw [Nat.sub_zero, ← List.range_eq_range']
 cases (List.range L.length).findSome? (fun i => if slotsT (L.take i) = s then some (i : Int) else none) <;> rfl
theorem pK_nonneg {L : List Ins} {k : Nat} {s i : Int} (h : pK L k s = some i) : 0 ≤ i := by
 obtain ⟨j, _, hr⟩ := List.exists_of_findSome?_eq_some h
 split at hr
 ·injection hr with hr; omega
 ·cases hr
set_option maxRecDepth 40000 in
set_option maxHeartbeats 8000000 in
theorem Targets_any (v : Value) (L : List Ins) (w : World) (hv : IsIns w v L) (hL : L.length ≤ 1000000) (ho : OffOk L) (hO : OpsN w) :
  Calls Tryz.prog 39 #[v] w fun e w' => ∃ v', e = .returned (.tuple #[v', .int .i64 (tgtBad L)]) ∧ IsInts w' v' (tgtL L) ∧ Ext w w' := by
 obtain ⟨A, c, rfl, hc, -, hv'⟩ := hv.form
 have HS := hx (Starts_any _ L w hv' hL hO)
 have hmm := @run_makeMap Tryz.prog
 obtain ⟨m, hm⟩ : ∃ m, m = L.length := ⟨_, rfl⟩
 have hml : m ≤ 1000000 := by omega
 have HM := hx hm
 rw [← hm] at hv' hc hv HS ⊢
 clear hm
 go_enter Tryz.func39, Tryz.ntmps39
 go_wp2_with fail
 refine HS.out.mono ?_
 rintro e w1 ⟨vs, rfl, is1, e1⟩
 obtain ⟨As, cs, rfl, -, -, is1'⟩ := is1.form
 have hsl : (startsL L).length = m := by rw [startsL_length, ← HM.out]
 rw [hsl] at is1' ⊢
 clear HS is1
 have hw0 : wrap64 ((m : Int) - 1) = (m : Int) - 1 := wrapL _ (by omega) (by omega)
 go_wp2
 clear hmm hw0
 go_loopw [7] (fun i wr => ∃ k : Nat, k ≤ m ∧ i = .int .i64 ((k : Int) - 1) ∧ MapI wr w1.heap.size (m - k) (pK L k) ∧ Ext w1 wr) (fun i _ => (RowKit.intOf i + 1).toNat)
 case atStart => exact ⟨m, Nat.le_refl _, by simp, by
  have h := MapI.made w1
  rw [Nat.sub_self]
  have e : pK L m = fun _ => none := by funext s; rw [HM.out]; exact pK_end L s
  rw [e]; exact h, Ext.new _ _⟩
 case round =>
  obtain ⟨k, hk, rfl, hmp, he⟩ := hrel
  cases k with
  | succ k =>
   obtain ⟨S, hS⟩ : ∃ S, (startsL L)[k]? = some S := ⟨_, List.getElem?_eq_getElem (by omega)⟩
   have hSv : S = slotsT (L.take k) := by
    rw [startsL_get (by have := HM.out; omega)] at hS
    exact (Option.some.inj hS).symm
   obtain ⟨b0, o, rfl, d1, hS64⟩ := is1'.get hS
   rw [Nat.mul_one] at d1
   replace d1 := he.cell d1
   have hk1 : (((k + 1 : Nat) : Int) - 1) = (k : Int) := by omega
   rw [hk1]
   have hkm : (k : Int) < (m : Int) := by omega
   have hwk : wrap64 ((k : Int) - 1) = (k : Int) - 1 := wrapL _ (by omega) (by omega)
   have hki : I64 (k : Int) := by unfold I64; omega
   have HK := hx hk
   have HSV := hx hSv
   clear hk1 hSv hS hk hsl
   go_wp2_with (refine wp_mapUpdI hmp S k hS64 hki (by omega) rfl rfl (by rfl) (by rfl) (by rfl) ?_; intro w2 m2 g2)
   have e2 := he.grown g2 (fun k hk => by cases hk; exact Nat.le_refl _)
   have M2 := hx m2
   have E2 := hx e2
   clear hmp he g2 d1 m2 e2
   have HWK := hx hwk
   clear hwk
   go_roundw
   case rel => exact ⟨k, by have := HK.out; omega, rfl, by
    have e : (fun y => if y = S then some (k : Int) else pK L (k + 1) y) = pK L k := by
     funext y
     rw [pK_step (L := L) (k := k) (by have h1 := HK.out; have h2 := HM.out; omega) y, HSV.out]
    have h := M2.out
    rw [e] at h
    rw [show m - k = m - (k + 1) + 1 by have := HK.out; omega]
    exact h, E2.out⟩
   case measure => simp [RowKit.intOf]
  | zero =>
   have hmk := run_make_row' (P := Tryz.prog) 66 3 (.int .i64 0) 8 Tryz.underlying66 (by kernel_rfl) rfl .i64 .i64 m (by omega) (by omega)
   have ri := rowI_made wr m
   have mp := hmp.ext (Ext.new wr (.cells (madeCells #[.int .i64 0] m) 3))
   have e3 := he.trans (Ext.new wr (.cells (madeCells #[.int .i64 0] m) 3))
   obtain ⟨g, hg⟩ : ∃ g, g = wr.heap.size := ⟨_, rfl⟩
   have hgB : w1.heap.size < g := by
    obtain ⟨D, h1, _⟩ := hmp
    have := h1.lt
    omega
   go_wp2
   clear hmk
   rw [← hg]
   rw [← hg] at ri
   obtain ⟨W3, hW3⟩ : ∃ W3, W3 = wr.alloc (.cells (madeCells #[.int .i64 0] m) 3) := ⟨_, rfl⟩
   rw [← hW3] at ri mp e3 ⊢
   clear hW3 hg hmp he
   go_loopw [37] (fun i wr => ∃ k : Nat, k ≤ m ∧ i = .int .i64 (k : Nat) ∧ (∀ j, j < k → tgtBadAt L j = false) ∧ RowI wr g ((List.range k).map (tgtAt L) ++ List.replicate (m - k) 0) ∧ MapI wr w1.heap.size m (pK L 0) ∧ Ext w1 wr) (fun i _ => m - (RowKit.intOf i).toNat)
   case atStart => exact ⟨0, by omega, rfl, by intro j hj; omega, by simpa using ri, by simpa using mp, e3⟩
   case round =>
    obtain ⟨k, hk, rfl, hn, hrow, hmp2, he2⟩ := hrel
    have HN := hx hn
    clear hn ri mp e3
    by_cases hlt : k < m
    ·obtain ⟨x, hx⟩ : ∃ x, L[k]? = some x := ⟨_, List.getElem?_eq_getElem (by have := HM.out; omega)⟩
     have hgx : L.getD k default = x := by rw [List.getD_eq_getElem?_getD, hx]; rfl
     obtain ⟨bx, ox, rfl, hE⟩ := (IsIns.ext hv' (e1.trans he2)).get hx
     obtain ⟨⟨k0, k1, k2, k3, k4, k5⟩, hok⟩ := hE
     obtain ⟨S, hS⟩ : ∃ S, (startsL L)[k]? = some S := ⟨_, List.getElem?_eq_getElem (by rw [startsL_length]; have := HM.out; omega)⟩
     have hSv : S = slotsT (L.take k) := by
      rw [startsL_get (by have := HM.out; omega)] at hS
      exact (Option.some.inj hS).symm
     obtain ⟨b0, o, rfl, d1, -⟩ := is1'.get hS
     rw [Nat.mul_one] at d1
     have hst := slotsT_take hx
     have hbd := slotsT_bd (L.take (k + 1))
     have hbd0 := slotsT_bd (L.take k)
     have hll : (L.take (k + 1)).length ≤ k + 1 := by rw [List.length_take]; omega
     have hll0 : (L.take k).length ≤ k := by rw [List.length_take]; omega
     have hof := ho x (List.mem_of_getElem? hx)
     have hsx := slotsN_cases x.op
     have hta : tgtAt L k = if jumpsX x then tgtN L k else -1 := by unfold tgtAt; rw [hgx]
     have hba : tgtBadAt L k = (jumpsX x && decide (tgtN L k < 0)) := by unfold tgtBadAt; rw [hgx]
     have htn : tgtN L k = (pK L 0 (S + slotsN x.op + x.off)).getD (-1) := by unfold tgtN; rw [hgx, pK_zero, hst, hSv]
     have hpn : ∀ i, pK L 0 (S + slotsN x.op + x.off) = some i → 0 ≤ i := fun i h => pK_nonneg h
     have hwA : wrap64 (S + slotsN x.op) = S + slotsN x.op := wrapL _ (by omega) (by omega)
     have hwB : wrap64 (S + slotsN x.op + x.off) = S + slotsN x.op + x.off := wrapL _ (by omega) (by omega)
     have hTI : I64 (S + slotsN x.op + x.off) := by unfold I64; omega
     have hwC : IntKind.i64.wrap (S + slotsN x.op) = S + slotsN x.op := IntWalk.i64_in _ (by omega)
     have hwD : IntKind.i64.wrap (S + slotsN x.op + x.off) = S + slotsN x.op + x.off := IntWalk.i64_in _ (by omega)
     obtain ⟨op, reg, n1, n2, n3, n4⟩ := x
     dsimp only at *
     have HJ := Go.Proofs.YtmofdnlefjfcfaaGreatDoor.hx fun W (h : Ext w1 W) => insnJumps_any ⟨op, reg, n1, n2, n3, n4⟩ W hok (hO.ext (e1.trans h))
     have HSL := Go.Proofs.YtmofdnlefjfcfaaGreatDoor.hx fun W (h : Ext w1 W) => insnSlots_any op W hok.op (hO.ext (e1.trans h))
     have hrl : ((List.range k).map (tgtAt L) ++ List.replicate (m - k) 0)[k]? = some 0 := by
      have h0 : ((List.range k).map (tgtAt L)).length = k := by simp
      rw [List.getElem?_append_right (by rw [h0]; exact Nat.le_refl _), h0, Nat.sub_self, show m - k = (m - (k + 1)) + 1 by omega, List.replicate_succ]
      rfl
     have hset : ∀ y : Int, ((List.range k).map (tgtAt L) ++ List.replicate (m - k) 0).set k y = (List.range k).map (tgtAt L) ++ y :: List.replicate (m - (k + 1)) 0 := fun y => by
      rw [List.set_append_right _ _ (by simp), show m - k = (m - (k + 1)) + 1 by omega, List.replicate_succ]
      simp
     have hset2 : ∀ y z : Int, ((List.range k).map (tgtAt L) ++ y :: List.replicate (m - (k + 1)) 0).set k z = (List.range k).map (tgtAt L) ++ z :: List.replicate (m - (k + 1)) 0 := fun y z => by
      rw [List.set_append_right _ _ (by simp)]
      simp
     have hfin : ∀ y : Int, y = tgtAt L k → (List.range k).map (tgtAt L) ++ y :: List.replicate (m - (k + 1)) 0 = (List.range (k + 1)).map (tgtAt L) ++ List.replicate (m - (k + 1)) 0 := fun y h => by
      rw [List.range_succ, List.map_append, h]; simp
     have hgs : w1.heap.size < g ∧ g < wr.heap.size := ⟨hgB, hrow.lt⟩
     have ex := he2.trans (Ext.new wr (.cells #[.int .i64 op, .bool reg, .int .i64 n1, .int .i64 n2, .int .i64 n3, .int .i64 n4] 53))
     have e4 := ex.setCell (a := ⟨g, k, none⟩) (.int .i64 (-1)) (by simp only; omega)
     have r4 := (hrow.ext (Ext.new wr (.cells #[.int .i64 op, .bool reg, .int .i64 n1, .int .i64 n2, .int .i64 n3, .int .i64 n4] 53))).set k (-1)
     rw [hset] at r4
     have c4 := (hrow.ext (Ext.new wr (.cells #[.int .i64 op, .bool reg, .int .i64 n1, .int .i64 n2, .int .i64 n3, .int .i64 n4] 53))).cell hrl
     have f4 := (hrow.ext (Ext.new wr (.cells #[.int .i64 op, .bool reg, .int .i64 n1, .int .i64 n2, .int .i64 n3, .int .i64 n4] 53))).frozen k
     have rx := (RowV.new wr [.int .i64 op, .bool reg, .int .i64 n1, .int .i64 n2, .int .i64 n3, .int .i64 n4] 53).keep (grown_setCell (wr.alloc (.cells #[.int .i64 op, .bool reg, .int .i64 n1, .int .i64 n2, .int .i64 n3, .int .i64 n4] 53)) g k (.int .i64 (-1))) (by intro e; injection e with e; omega)
     have mp4 := (hmp2.ext (Ext.new wr (.cells #[.int .i64 op, .bool reg, .int .i64 n1, .int .i64 n2, .int .i64 n3, .int .i64 n4] 53))).kept (grown_setCell (wr.alloc (.cells #[.int .i64 op, .bool reg, .int .i64 n1, .int .i64 n2, .int .i64 n3, .int .i64 n4] 53)) g k (.int .i64 (-1))) (by intro e; injection e with e; omega)
     have q0 := rx.cell (i := 0) rfl
     have q1 := rx.cell (i := 1) rfl
     have q2 := rx.cell (i := 2) rfl
     have q3 := rx.cell (i := 3) rfl
     have q4 := rx.cell (i := 4) rfl
     have q5 := rx.cell (i := 5) rfl
     have D1 := Go.Proofs.YtmofdnlefjfcfaaGreatDoor.hx d1
     have HST := Go.Proofs.YtmofdnlefjfcfaaGreatDoor.hx hst
     have HTA := Go.Proofs.YtmofdnlefjfcfaaGreatDoor.hx hta
     have HBA := Go.Proofs.YtmofdnlefjfcfaaGreatDoor.hx hba
     have HTN := Go.Proofs.YtmofdnlefjfcfaaGreatDoor.hx htn
     have HPN := Go.Proofs.YtmofdnlefjfcfaaGreatDoor.hx hpn
     have HTI := Go.Proofs.YtmofdnlefjfcfaaGreatDoor.hx hTI
     have HSE := Go.Proofs.YtmofdnlefjfcfaaGreatDoor.hx hset2
     have HFI := Go.Proofs.YtmofdnlefjfcfaaGreatDoor.hx hfin
     have HGS := Go.Proofs.YtmofdnlefjfcfaaGreatDoor.hx hgs
     have E4 := Go.Proofs.YtmofdnlefjfcfaaGreatDoor.hx e4
     have R4 := Go.Proofs.YtmofdnlefjfcfaaGreatDoor.hx r4
     have M4 := Go.Proofs.YtmofdnlefjfcfaaGreatDoor.hx mp4
     have RX := Go.Proofs.YtmofdnlefjfcfaaGreatDoor.hx rx
     have HLT := Go.Proofs.YtmofdnlefjfcfaaGreatDoor.hx hlt
     have HOK := Go.Proofs.YtmofdnlefjfcfaaGreatDoor.hx hok
     have HWA := Go.Proofs.YtmofdnlefjfcfaaGreatDoor.hx hwA
     have HWB := Go.Proofs.YtmofdnlefjfcfaaGreatDoor.hx hwB
     have HWC := Go.Proofs.YtmofdnlefjfcfaaGreatDoor.hx hwC
     have HWD := Go.Proofs.YtmofdnlefjfcfaaGreatDoor.hx hwD
     have hkm : (k : Int) < (m : Int) := by omega
     unfold Ins.v at HJ
     generalize jumpsX ⟨op, reg, n1, n2, n3, n4⟩ = J at *
     generalize slotsN op = sx at *
     clear hst hta hba htn hpn hTI hset hset2 hfin hgs e4 r4 mp4 rx hbd hbd0 hll hll0 hof hsx hrl hSv hS hx hgx ex d1 hlt hok hwA hwB hwC hwD
     go_wp2_with fail
     refine (HJ.out _ E4.out).mono ?_
     rintro e w5 ⟨rfl, e5⟩
     have E5 := Go.Proofs.YtmofdnlefjfcfaaGreatDoor.hx (E4.out.trans e5)
     have R5 := Go.Proofs.YtmofdnlefjfcfaaGreatDoor.hx (R4.out.ext e5)
     have M5 := Go.Proofs.YtmofdnlefjfcfaaGreatDoor.hx (M4.out.ext e5)
     have RX5 := Go.Proofs.YtmofdnlefjfcfaaGreatDoor.hx (RX.out.ext e5)
     clear e5 q0 q1 q2 q3 q4 q5 c4 f4 k0 k1 k2 k3 k4 k5 E4 R4 M4 RX hmp2 hrow he2
     cases J with
     | false =>
      go_wp2
      go_roundw
      case rel =>
       repeat apply Exists.intro
       exact ⟨⟨k + 1, HLT.out, by go_num, fun j hj => (Nat.lt_succ_iff_lt_or_eq.1 hj).elim (HN.out j) (fun h => by rw [h, HBA.out]; rfl), by rw [← HFI.out (-1) (by rw [HTA.out]; rfl)]; exact R5.out, M5.out, E5.out⟩, rfl⟩
      case measure => simp [RowKit.intOf]; omega
     | true =>
      go_upto_region 13 with fail
      have hwA := HWA.out
      have hwB := HWB.out
      have hwC := HWC.out
      have hwD := HWD.out
      have L5 := Go.Proofs.YtmofdnlefjfcfaaGreatDoor.hx fun (W : World) (h : Ext w5 W) => And.intro ((E5.out.trans h).cell D1.out) (And.intro ((RX5.out.ext h).cell (i := 0) rfl) (And.intro ((RX5.out.ext h).cell (i := 4) rfl) ((M5.out.ext h).look (S + sx + n3) HTI.out)))
      have hd : Ext w5 w5.drew := (Ext.refl w5).drew
      have hr0 : Ext w5 w5 := Ext.refl w5
      go_cut [11, 12] (fun s11 s12 wx => s11 = .int .i64 ((pK L 0 (S + sx + n3)).getD 0) ∧ s12 = .bool (pK L 0 (S + sx + n3)).isSome ∧ Ext w5 wx)
      case first =>
       go_region_held3 (fun w' => w'.cell? ⟨b0, o + k, none⟩ = some (.int .i64 S) ∧ w'.cell? ⟨wr.heap.size, 0, none⟩ = some (.int .i64 op) ∧ w'.cell? ⟨wr.heap.size, 4, none⟩ = some (.int .i64 n3) ∧ (Instr.lookup 129 (.map (some w1.heap.size)) (.int .i64 (S + sx + n3)) true).run Tryz.prog w' = .ok (.tuple #[.int .i64 ((pK L 0 (S + sx + n3)).getD 0), .bool (pK L 0 (S + sx + n3)).isSome]) w') (first | exact L5.out _ (by assumption))
        (first | (go_at_call 54; refine (HSL.out _ (E5.out.trans (by assumption))).mono ?_; rintro e wA ⟨rfl, eA⟩; have fA : Ext w5 wA := Ext.trans (by assumption) eA))
       go_wp2
       go_meet
       exact ⟨rfl, rfl, by assumption⟩
      case rest =>
       obtain ⟨rfl, rfl, x6⟩ := hcut
       have E6 := Go.Proofs.YtmofdnlefjfcfaaGreatDoor.hx (E5.out.trans x6)
       have R6 := Go.Proofs.YtmofdnlefjfcfaaGreatDoor.hx (R5.out.ext x6)
       have M6 := Go.Proofs.YtmofdnlefjfcfaaGreatDoor.hx (M5.out.ext x6)
       clear L5 hd hr0 x6 hwA hwB hwC hwD
       cases hp : pK L 0 (S + sx + n3) with
       | none =>
        have htn := HTN.out
        rw [hp] at htn
        have hbad := tgtBad_hit (L := L) (by have h1 := HLT.out; have h2 := HM.out; omega) HN.out (by rw [HBA.out, htn]; rfl)
        have HBD := Go.Proofs.YtmofdnlefjfcfaaGreatDoor.hx hbad
        clear htn hbad hp
        go_wp2
        go_ret2
        exact ⟨.slice none 0 0, by simp [HBD.out], by unfold tgtL; rw [HBD.out, if_neg (by omega)]; exact Sl.nil _, e1.trans E6.out⟩
       | some i =>
        have htn := HTN.out
        rw [hp] at htn
        have hi0 := HPN.out i hp
        have hnb : tgtBadAt L k = false := by rw [HBA.out, htn, Option.getD_some]; simp; omega
        have hta : tgtAt L k = i := by rw [HTA.out, htn]; rfl
        have HNB := Go.Proofs.YtmofdnlefjfcfaaGreatDoor.hx hnb
        have hcl := R6.out.cell (i := k) (y := -1) (by rw [List.getElem?_append_right (by simp)]; simp)
        have hfz := R6.out.frozen k
        have r7 := R6.out.set k i
        rw [HSE.out, HFI.out i hta.symm] at r7
        have R7 := Go.Proofs.YtmofdnlefjfcfaaGreatDoor.hx r7
        have e7 := E6.out.setCell (a := ⟨g, k, none⟩) (.int .i64 i) (by have := HGS.out; simp only; omega)
        have E7 := Go.Proofs.YtmofdnlefjfcfaaGreatDoor.hx e7
        have m7 := M6.out.kept (grown_setCell _ g k (.int .i64 i)) (by have := HGS.out; intro e; injection e with e; omega)
        have M7 := Go.Proofs.YtmofdnlefjfcfaaGreatDoor.hx m7
        clear htn hi0 hnb hta r7 e7 m7 hp
        simp only [Option.getD_some, Option.isSome_some]
        go_wp2
        go_roundw
        case rel =>
         repeat apply Exists.intro
         exact ⟨⟨k + 1, HLT.out, by go_num, fun j hj => (Nat.lt_succ_iff_lt_or_eq.1 hj).elim (HN.out j) (fun h => by rw [h]; exact HNB.out), R7.out, M7.out, E7.out⟩, rfl⟩
        case measure => simp [RowKit.intOf]; omega
    ·obtain rfl : k = m := by omega
     have hb := tgtBad_none (L := L) (by rw [← HM.out]; exact HN.out)
     have HB := hx hb
     rw [Nat.sub_self, List.replicate_zero, List.append_nil] at hrow
     clear hb
     go_wp2
     go_ret2
     refine ⟨.slice (some ⟨g, 0, none⟩) k k, by simp [HB.out], ?_, e1.trans he2⟩
     unfold tgtL
     rw [HB.out, if_pos rfl, ← HM.out]
     exact hrow.read (fun x hx => by
      obtain ⟨i, _, rfl⟩ := List.mem_map.1 hx
      exact tgtAt_bd L i hL) (by simp) (by simp; omega)
end Go.Proofs.YtmofdnlefjfcfaaGreatDoor


set_option linter.unusedVariables false
set_option linter.unusedSimpArgs false
namespace Go.Proofs.YtmofdnlefjfcfaaGreatDoor
open Go.RowKit

/-- A checker in memory: its instructions and their slots. -/
def ChkP (w : World) (cb : Nat) (v0 v1 v2 : Value) (A : Option Addr) (c : Nat) (As : Option Addr) (cs m : Nat) (L : List Ins) : Prop :=
 RowV w cb 98 [v0, v1, v2, .slice A m c, .slice As m cs] ∧ IsIns w (.slice A m c) L ∧ IsInts w (.slice As m cs) (startsL L) ∧ m = L.length
theorem ChkP.ext {w w' : World} {cb : Nat} {v0 v1 v2 : Value} {A : Option Addr} {c : Nat} {As : Option Addr} {cs m : Nat} {L : List Ins} (h : ChkP w cb v0 v1 v2 A c As cs m L) (he : Ext w w') : ChkP w' cb v0 v1 v2 A c As cs m L :=
 ⟨h.1.ext he, IsIns.ext h.2.1 he, IsInts.ext h.2.2.1 he, h.2.2.2⟩
/-- The slot of the first instruction with a property. -/
def fstN (p : Ins → Bool) (L : List Ins) : Option Int := (List.range L.length).findSome? (fun i => if p (L.getD i default) then some (slotsT (L.take i)) else none)
def fstE (p : Ins → Bool) (L : List Ins) (e : Int) : Int := if (fstN p L).isSome then e else 0
theorem fstN_hit {p : Ins → Bool} {L : List Ins} {k : Nat} (hk : k < L.length) (hn : ∀ j, j < k → p (L.getD j default) = false) (h : p (L.getD k default) = true) : fstN p L = some (slotsT (L.take k)) := by
 unfold fstN
 rw [range_first (fun i => if p (L.getD i default) then some (slotsT (L.take i)) else none) L.length k _ hk (fun j hj => if_neg (by rw [hn j hj]; simp)) (if_pos h)]
theorem fstN_none {p : Ins → Bool} {L : List Ins} (hn : ∀ j, j < L.length → p (L.getD j default) = false) : fstN p L = none := by
 unfold fstN
 rw [List.findSome?_eq_none_iff]
 intro x hx
 exact if_neg (by rw [hn x (by simpa using hx)]; simp)
set_option maxRecDepth 40000 in
set_option maxHeartbeats 4000000 in
theorem first_any (cb F : Nat) (p : Ins → Bool) (e : Int) (v0 v1 v2 : Value) (A : Option Addr) (c : Nat) (As : Option Addr) (cs m : Nat) (L : List Ins) (w : World) (hP : ChkP w cb v0 v1 v2 A c As cs m L) (hL : m ≤ 1000000)
  (hF : ∀ args W, (callFunc F args).run Tryz.prog W = .ok (.enter F args) W) (hc : ∀ (x : Ins) (W : World), x.Ok → Ext w W → Calls Tryz.prog F #[x.v] W fun e w' => e = .returned (.bool (p x)) ∧ Ext W w') :
  Calls Tryz.prog 105 #[.pointer (some ⟨cb, 0, none⟩), .func (.func F) #[] #[], .int .i64 e] w fun e' w' => e' = .returned (.tuple #[.int .i64 ((fstN p L).getD 0), .int .i64 (fstE p L e)]) ∧ Ext w w' := by
 obtain ⟨hr, hi, hs, hm⟩ := hP
 have q3 := hr.cell (i := 3) rfl
 have q4 := hr.cell (i := 4) rfl
 have HM := Go.Proofs.YtmofdnlefjfcfaaGreatDoor.hx hm
 have HC := Go.Proofs.YtmofdnlefjfcfaaGreatDoor.hx hc
 clear hm hc hr
 go_enter Tryz.func105, Tryz.ntmps105
 go_wp2
 go_loopw [15] (fun i wr => ∃ k : Nat, k ≤ m ∧ i = .int .i64 (k : Nat) ∧ (∀ j, j < k → p (L.getD j default) = false) ∧ Ext w wr) (fun i _ => m - (RowKit.intOf i).toNat)
 case atStart => exact ⟨0, by omega, rfl, by intro j hj; omega, Ext.refl _⟩
 case round =>
  obtain ⟨k, hk, rfl, hn, he⟩ := hrel
  have HN := Go.Proofs.YtmofdnlefjfcfaaGreatDoor.hx hn
  clear hn q3
  by_cases hlt : k < m
  ·obtain ⟨x, hx⟩ : ∃ x, L[k]? = some x := ⟨_, List.getElem?_eq_getElem (by have := HM.out; omega)⟩
   have hg : L.getD k default = x := by rw [List.getD_eq_getElem?_getD, hx]; rfl
   obtain ⟨bx, ox, rfl, hE⟩ := (IsIns.ext hi he).get hx
   obtain ⟨⟨k0, k1, k2, k3, k4, k5⟩, hok⟩ := hE
   obtain ⟨S, hS⟩ : ∃ S, (startsL L)[k]? = some S := ⟨_, List.getElem?_eq_getElem (by rw [startsL_length]; have := HM.out; omega)⟩
   have hSv : S = slotsT (L.take k) := by
    rw [startsL_get (by have := HM.out; omega)] at hS
    exact (Option.some.inj hS).symm
   obtain ⟨b0, o, rfl, d1, -⟩ := hs.get hS
   rw [Nat.mul_one] at d1
   have hkm : (k : Int) < (m : Int) := by omega
   have ex := he.trans (Ext.new wr (.cells #[.int .i64 x.op, .bool x.reg, .int .i64 x.dst, .int .i64 x.src, .int .i64 x.off, .int .i64 x.imm] 53))
   have hq := HC.out x _ hok ex
   have hpx : p (L.getD k default) = p x := by rw [hg]
   have HPX := Go.Proofs.YtmofdnlefjfcfaaGreatDoor.hx hpx
   have HSV := Go.Proofs.YtmofdnlefjfcfaaGreatDoor.hx hSv
   have EX := Go.Proofs.YtmofdnlefjfcfaaGreatDoor.hx ex
   have HLT := Go.Proofs.YtmofdnlefjfcfaaGreatDoor.hx hlt
   have D1 := Go.Proofs.YtmofdnlefjfcfaaGreatDoor.hx d1
   have Q4 := Go.Proofs.YtmofdnlefjfcfaaGreatDoor.hx q4
   unfold Ins.v at hq
   obtain ⟨op, reg, n1, n2, n3, n4⟩ := x
   dsimp only at *
   generalize p ⟨op, reg, n1, n2, n3, n4⟩ = B at *
   have HQ := Go.Proofs.YtmofdnlefjfcfaaGreatDoor.hx hq
   clear hq hpx hSv hS hx hg ex hok d1 q4 he hlt
   cases B with
   | true =>
    go_wp2_with fail
    refine HQ.out.mono ?_
    rintro e' w5 ⟨rfl, e5⟩
    have d5 := (EX.out.trans e5).cell D1.out
    have q5 := (EX.out.trans e5).cell Q4.out
    have hf := fstN_hit (p := p) (L := L) (k := k) (by have h1 := HLT.out; have h2 := HM.out; omega) HN.out HPX.out
    have HFX := Go.Proofs.YtmofdnlefjfcfaaGreatDoor.hx hf
    have E6 := Go.Proofs.YtmofdnlefjfcfaaGreatDoor.hx (EX.out.trans e5)
    clear hf e5 k0 k1 k2 k3 k4 k5
    go_wp2
    go_ret2
    exact ⟨by simp [fstE, HFX.out, HSV.out], E6.out⟩
   | false =>
    go_wp2_with fail
    refine HQ.out.mono ?_
    rintro e' w5 ⟨rfl, e5⟩
    have E6 := Go.Proofs.YtmofdnlefjfcfaaGreatDoor.hx (EX.out.trans e5)
    clear e5 k0 k1 k2 k3 k4 k5
    go_wp2
    go_roundw
    case rel => exact ⟨k + 1, HLT.out, by go_num, fun j hj => (Nat.lt_succ_iff_lt_or_eq.1 hj).elim (HN.out j) (fun h => by rw [h, HPX.out]), E6.out⟩
    case measure => simp [RowKit.intOf]; omega
  ·obtain rfl : k = m := by omega
   have hf := fstN_none (p := p) (L := L) (by rw [← HM.out]; exact HN.out)
   have HFX := Go.Proofs.YtmofdnlefjfcfaaGreatDoor.hx hf
   clear hf
   go_wp2
   go_ret2
   exact ⟨by simp [fstE, HFX.out], he⟩
def fieldP (x : Ins) : Bool := (formN x.op == 11) && (x.imm != 0)
def writeP (x : Ins) : Bool := writesX x == 10
set_option maxRecDepth 40000 in
set_option maxHeartbeats 4000000 in
theorem fields1_any (x : Ins) (w : World) (hx0 : x.Ok) (hO : OpsN w) :
  Calls Tryz.prog 106 #[x.v] w fun e w' => e = .returned (.bool (fieldP x)) ∧ Ext w w' := by
 have e0 := Ext.new w (xCells x)
 have hc := opForm_any x.op _ hx0.op (hO.ext e0)
 have hP : fieldP x = ((formN x.op == 11) && (x.imm != 0)) := rfl
 have k5 : ((w.alloc (xCells x)).cell? ⟨w.heap.size, 5, none⟩ = some (.int .i64 x.imm)) := by simp
 have K5 := hx k5
 have E0 := hx e0
 have HP := hx hP
 have H := hx hc
 unfold Ins.v
 generalize formN x.op = F at *
 clear hO hx0 e0 k5 hc hP
 by_cases h : F = 11
 ·subst h
  go_enter Tryz.func106, Tryz.ntmps106
  go_wp2_with (go_at_call 61; refine H.out.mono ?_; rintro e w1 ⟨rfl, e1⟩; have k5 := e1.cell K5.out)
  go_ret
  exact ⟨ret_bool (by rw [HP.out]; rfl), E0.out.trans e1⟩
 ·have d : (F == 11) = false := by simpa using h
  have D := hx d
  clear h
  go_enter Tryz.func106, Tryz.ntmps106
  go_wp2_with (go_at_call 61; refine H.out.mono ?_; rintro e w1 ⟨rfl, e1⟩; have k5 := e1.cell K5.out)
  go_ret
  exact ⟨ret_bool (by rw [HP.out, D.out]; rfl), E0.out.trans e1⟩
set_option maxRecDepth 40000 in
set_option maxHeartbeats 4000000 in
theorem writes1_any (x : Ins) (w : World) (hx0 : x.Ok) (hO : OpsN w) :
  Calls Tryz.prog 107 #[x.v] w fun e w' => e = .returned (.bool (writeP x)) ∧ Ext w w' := by
 have e0 := Ext.new w (xCells x)
 have hc := insnWrites_any x _ hx0 (hO.ext e0)
 have HP := hx (show writeP x = (writesX x == 10) from rfl)
 have E0 := hx e0
 have H := hx hc
 unfold Ins.v at *
 generalize writesX x = R at *
 clear hO hx0 e0 hc
 go_enter Tryz.func107, Tryz.ntmps107
 go_wp2_with (go_at_call 108; refine H.out.mono ?_; rintro e w1 ⟨rfl, e1⟩)
 go_ret
 exact ⟨ret_bool (by rw [HP.out]), E0.out.trans e1⟩
end Go.Proofs.YtmofdnlefjfcfaaGreatDoor


set_option linter.unusedVariables false
set_option linter.unusedSimpArgs false
namespace Go.Proofs.YtmofdnlefjfcfaaGreatDoor
open Go.RowKit

set_option maxRecDepth 40000 in
theorem fields_any (cb : Nat) (v0 v1 v2 : Value) (A : Option Addr) (c : Nat) (As : Option Addr) (cs m : Nat) (L : List Ins) (w : World) (hP : ChkP w cb v0 v1 v2 A c As cs m L) (hL : m ≤ 1000000) (hO : OpsN w) :
  Calls Tryz.prog 75 #[.pointer (some ⟨cb, 0, none⟩)] w fun e' w' => e' = .returned (.tuple #[.int .i64 ((fstN fieldP L).getD 0), .int .i64 (fstE fieldP L 12)]) ∧ Ext w w' := by
 have H := hx (first_any cb 106 fieldP 12 v0 v1 v2 A c As cs m L w hP hL (enters_of Tryz.func106 (by kernel_rfl) rfl) fun x W hx0 h => fields1_any x W hx0 (hO.ext h))
 generalize (fstN fieldP L).getD 0 = R at *
 generalize fstE fieldP L 12 = E at *
 clear hP hO
 go_enter Tryz.func75, Tryz.ntmps75
 go_wp2_with fail
 refine H.out.mono ?_
 rintro e w1 ⟨rfl, e1⟩
 go_wp2
 go_ret2
 exact ⟨rfl, e1⟩
set_option maxRecDepth 40000 in
theorem writes_any (cb : Nat) (v0 v1 v2 : Value) (A : Option Addr) (c : Nat) (As : Option Addr) (cs m : Nat) (L : List Ins) (w : World) (hP : ChkP w cb v0 v1 v2 A c As cs m L) (hL : m ≤ 1000000) (hO : OpsN w) :
  Calls Tryz.prog 78 #[.pointer (some ⟨cb, 0, none⟩)] w fun e' w' => e' = .returned (.tuple #[.int .i64 ((fstN writeP L).getD 0), .int .i64 (fstE writeP L 14)]) ∧ Ext w w' := by
 have H := hx (first_any cb 107 writeP 14 v0 v1 v2 A c As cs m L w hP hL (enters_of Tryz.func107 (by kernel_rfl) rfl) fun x W hx0 h => writes1_any x W hx0 (hO.ext h))
 generalize (fstN writeP L).getD 0 = R at *
 generalize fstE writeP L 14 = E at *
 clear hP hO
 go_enter Tryz.func78, Tryz.ntmps78
 go_wp2_with fail
 refine H.out.mono ?_
 rintro e w1 ⟨rfl, e1⟩
 go_wp2
 go_ret2
 exact ⟨rfl, e1⟩
theorem tgtBad_bd (L : List Ins) : tgtBad L = -1 ∨ ∃ k : Nat, tgtBad L = (k : Int) ∧ k < L.length := by
 unfold tgtBad
 split
 ·rename_i r h
  obtain ⟨k, hk, hr⟩ := List.exists_of_findSome?_eq_some h
  have hk' : k < L.length := by simpa using hk
  split at hr
  ·injection hr with hr; exact .inr ⟨k, hr.symm, hk'⟩
  ·cases hr
 ·exact .inl rfl
def jmpAt (L : List Ins) : Int := if tgtBad L ≥ 0 then slotsT (L.take (tgtBad L).toNat) else 0
def jmpE (L : List Ins) : Int := if tgtBad L ≥ 0 then 13 else 0
set_option maxRecDepth 40000 in
set_option maxHeartbeats 4000000 in
theorem jumps_any (cb : Nat) (v0 v1 v2 : Value) (A : Option Addr) (c : Nat) (As : Option Addr) (cs m : Nat) (L : List Ins) (w : World) (hP : ChkP w cb v0 v1 v2 A c As cs m L) (hL : m ≤ 1000000) (hO : OpsN w) (ho : OffOk L) :
  Calls Tryz.prog 77 #[.pointer (some ⟨cb, 0, none⟩)] w fun e' w' => e' = .returned (.tuple #[.int .i64 (jmpAt L), .int .i64 (jmpE L)]) ∧ Ext w w' := by
 obtain ⟨hr, hi, hs, hm⟩ := hP
 have q3 := hr.cell (i := 3) rfl
 have q4 := hr.cell (i := 4) rfl
 have HT := hx (Targets_any _ L w hi (by omega) ho hO)
 have HJ := hx (show jmpAt L = if tgtBad L ≥ 0 then slotsT (L.take (tgtBad L).toNat) else 0 from rfl)
 have HE := hx (show jmpE L = if tgtBad L ≥ 0 then 13 else 0 from rfl)
 have Q4 := hx q4
 rcases tgtBad_bd L with hb | ⟨k, hb, hk⟩
 ·rw [hb] at HT HJ HE
  clear hr hi hs hm q4 hb ho
  go_enter Tryz.func77, Tryz.ntmps77
  go_wp2_with fail
  refine HT.out.mono ?_
  rintro e w1 ⟨v', rfl, -, e1⟩
  go_wp2
  go_ret2
  exact ⟨by rw [HJ.out, HE.out]; rfl, e1⟩
 ·rw [hb] at HT HJ HE
  obtain ⟨S, hS⟩ : ∃ S, (startsL L)[k]? = some S := ⟨_, List.getElem?_eq_getElem (by rw [startsL_length]; exact hk)⟩
  have hSv : S = slotsT (L.take k) := by
   rw [startsL_get hk] at hS
   exact (Option.some.inj hS).symm
  obtain ⟨b0, o, rfl, d1, -⟩ := hs.get hS
  rw [Nat.mul_one] at d1
  have D1 := hx d1
  have HSV := hx hSv
  have hkm : (k : Int) < (m : Int) := by omega
  have hd : decide ((k : Int) ≥ 0) = true := decide_eq_true (by omega)
  have HK := hx (show (k : Int) ≥ 0 by omega)
  clear hr hi hs hm q4 hb hS hSv d1 ho hk
  go_enter Tryz.func77, Tryz.ntmps77
  go_wp2_with fail
  refine HT.out.mono ?_
  rintro e w1 ⟨v', rfl, -, e1⟩
  have d5 := e1.cell D1.out
  have q5 := e1.cell Q4.out
  have E1 := hx e1
  clear e1 q3
  go_wp2
  go_ret2
  exact ⟨by rw [HJ.out, HE.out, if_pos HK.out, if_pos HK.out, Int.toNat_natCast, ← HSV.out]; rfl, E1.out⟩
def endAt (L : List Ins) : Int := if endsX (L.getD (L.length - 1) default) then 0 else slotsT (L.take (L.length - 1))
def endE (L : List Ins) : Int := if endsX (L.getD (L.length - 1) default) then 0 else 15
set_option maxRecDepth 40000 in
set_option maxHeartbeats 4000000 in
theorem ends_any (cb : Nat) (v0 v1 v2 : Value) (A : Option Addr) (c : Nat) (As : Option Addr) (cs m : Nat) (L : List Ins) (w : World) (hP : ChkP w cb v0 v1 v2 A c As cs m L) (hL : m ≤ 1000000) (hne : 0 < m) (hO : OpsN w) :
  Calls Tryz.prog 79 #[.pointer (some ⟨cb, 0, none⟩)] w fun e' w' => e' = .returned (.tuple #[.int .i64 (endAt L), .int .i64 (endE L)]) ∧ Ext w w' := by
 obtain ⟨hr, hi, hs, hm⟩ := hP
 have q3 := hr.cell (i := 3) rfl
 have q4 := hr.cell (i := 4) rfl
 obtain ⟨k, hk⟩ : ∃ k, m = k + 1 := ⟨m - 1, by omega⟩
 have hlk : L.length - 1 = k := by omega
 obtain ⟨x, hx0⟩ : ∃ x, L[k]? = some x := ⟨_, List.getElem?_eq_getElem (by omega)⟩
 have hg : L.getD k default = x := by rw [List.getD_eq_getElem?_getD, hx0]; rfl
 have hA : endAt L = if endsX x then 0 else slotsT (L.take k) := by unfold endAt; rw [hlk, hg]
 have hE : endE L = if endsX x then 0 else 15 := by unfold endE; rw [hlk, hg]
 obtain ⟨bx, ox, rfl, hEx⟩ := hi.get hx0
 obtain ⟨⟨k0, k1, k2, k3, k4, k5⟩, hok⟩ := hEx
 obtain ⟨S, hS⟩ : ∃ S, (startsL L)[k]? = some S := ⟨_, List.getElem?_eq_getElem (by rw [startsL_length]; omega)⟩
 have hSv : S = slotsT (L.take k) := by
  rw [startsL_get (by omega)] at hS
  exact (Option.some.inj hS).symm
 obtain ⟨b0, o, rfl, d1, -⟩ := hs.get hS
 rw [Nat.mul_one] at d1
 have hw1 : wrap64 ((m : Int) - 1) = (k : Int) := by rw [hk]; push_cast; rw [show (k : Int) + 1 - 1 = k by omega]; exact wrapL _ (by omega) (by omega)
 have hk1 : (m : Int) - 1 = (k : Int) := by omega
 have hkm : (k : Int) < (m : Int) := by omega
 have HX := hx (insnEnds_any x w hok hO)
 have HA := hx hA
 have HE := hx hE
 have HSV := hx hSv
 have D1 := hx d1
 have Q4 := hx q4
 unfold Ins.v at HX
 obtain ⟨op, reg, n1, n2, n3, n4⟩ := x
 dsimp only at *
 generalize endsX ⟨op, reg, n1, n2, n3, n4⟩ = B at *
 clear hr hi hs hm hk hlk hg hA hE hS hSv d1 q4 hx0 hok
 cases B with
 | true =>
  go_enter Tryz.func79, Tryz.ntmps79
  go_wp2_with fail
  refine HX.out.mono ?_
  rintro e w1 ⟨rfl, e1⟩
  go_wp2
  go_ret2
  exact ⟨by rw [HA.out, HE.out]; rfl, e1⟩
 | false =>
  go_enter Tryz.func79, Tryz.ntmps79
  go_wp2_with fail
  refine HX.out.mono ?_
  rintro e w1 ⟨rfl, e1⟩
  have d5 := e1.cell D1.out
  have q5 := e1.cell Q4.out
  have E1 := hx e1
  clear e1 q3 k0 k1 k2 k3 k4 k5
  go_wp2
  go_ret2
  exact ⟨by rw [HA.out, HE.out, HSV.out]; rfl, E1.out⟩
end Go.Proofs.YtmofdnlefjfcfaaGreatDoor


set_option linter.unusedVariables false
set_option linter.unusedSimpArgs false
namespace Go.Proofs.YtmofdnlefjfcfaaGreatDoor
open Go.RowKit Go.Lib

def SetI (w : World) (b n : Nat) (p : Int → Bool) : Prop :=
 ∃ D : DataW Unit, w.ownsMap Tryz.prog 3 (plainElem Tryz.prog 4) b n D ∧ ∀ s, Maps.has D (keyI s) = p s ∧ D.atKey (keyI s) (.lit (.bool false)) = .lit (.bool (p s))
theorem SetI.made (w : World) : SetI (w.alloc (.map #[] 0)) w.heap.size 0 (fun _ => false) := ⟨.map [], World.ownsMap_made _ _ _ _, fun s => ⟨rfl, rfl⟩⟩
theorem SetI.kept {w w' : World} {row : Option Nat} {b n : Nat} {p : Int → Bool} (h : SetI w b n p) (hg : w.grownBy w' row) (hne : some b ≠ row) : SetI w' b n p := by
 obtain ⟨D, h1, h2⟩ := h
 exact ⟨D, h1.kept hg hne, h2⟩
theorem SetI.ext {w w' : World} {b n : Nat} {p : Int → Bool} (h : SetI w b n p) (he : Ext w w') : SetI w' b n p := h.kept (he.toGrown none) (by simp)
set_option maxRecDepth 20000 in
theorem SetI.look {w : World} {b n : Nat} {p : Int → Bool} (h : SetI w b n p) (s : Int) (hs : I64 s) :
  (Instr.lookup 176 (.map (some b)) (.int .i64 s) false).run Tryz.prog w = .ok (.bool (p s)) w := by
 obtain ⟨D, h1, h2⟩ := h
 obtain ⟨v, ps, hr, hv⟩ := h1.lookup (Maps.int_keyed Tryz.underlying3) Tryz.underlying176 (zeroBool w) (plainElem_bool Tryz.underlying4 false) (Maps.keyOf_int_mk Tryz.underlying3 (keyI_wf hs))
 obtain ⟨x, rfl, hx⟩ := plainBool_inv hv
 have h3 : (DataW.lit (.bool (p s)) : DataW Unit) = .lit (.bool x) := by rw [← (h2 s).2]; exact congrArg Prod.fst hx
 injection h3 with h3
 injection h3 with h3
 rw [hr, h3]
theorem wp_mapUpdB {ops : Array Oper} {rest : List Oper} {o : Oper} {a : Act} {Q : Exit → Act → World → Prop} {w : World} {b n : Nat} {p : Int → Bool} (h : SetI w b n p) (s : Int) (hs : I64 s) (hn : n < 1000000000) (hgd : o.guard = none) {m k v : Operand}
  (ho : o.op = .mapUpdate 176 m k v) (hm : a.eval m = .map (some b)) (hk : a.eval k = .int .i64 s) (hv : a.eval v = .bool true)
  (hK : ∀ w', SetI w' b (n + 1) (fun y => if y = s then true else p y) → w.grownBy w' (some b) → wpList Tryz.prog ops Q rest (a.put o.dst undef) w') : wpList Tryz.prog ops Q (o :: rest) a w := by
 obtain ⟨D, h1, h2⟩ := h
 refine wpList_plain hgd fun K hK' => ?_
 obtain ⟨w', hr, h3, h4⟩ := h1.update (Maps.int_keyed Tryz.underlying3) Tryz.underlying176 (by simp only [maxLen]; omega) (Maps.keyOf_int_mk Tryz.underlying3 (keyI_wf hs)) (plainElem_bool Tryz.underlying4 true)
 unfold Oper.wp
 simp [execOp, ho, hm, hk, hv, hr, Result.andThen]
 refine hK' _ _ (hK w' ⟨_, h3, fun y => ?_⟩ h4)
 by_cases hy : y = s
 ·subst hy
  dsimp only
  rw [if_pos rfl]
  exact ⟨Maps.has_put_same h1.isMap (by trivial) _, Maps.atKey_put_same h1.isMap (by trivial) _ _⟩
 ·dsimp only
  rw [if_neg hy]
  exact ⟨(Maps.has_put_other (fun e => hy (keyI_inj e)) _).trans (h2 y).1, (Maps.atKey_put_other (fun e => hy (keyI_inj e)) _ _).trans (h2 y).2⟩
theorem wp_delB {ops : Array Oper} {rest : List Oper} {o : Oper} {a : Act} {Q : Exit → Act → World → Prop} {w : World} {b n : Nat} {p : Int → Bool} (h : SetI w b n p) (s : Int) (hs : I64 s) (hgd : o.guard = none) {m k : Operand}
  (ho : o.op = Op.call { callee := Callee.builtin Builtin.delete, args := #[m, k], argTypes := #[176, 3] }) (hm : a.eval m = .map (some b)) (hk : a.eval k = .int .i64 s)
  (hK : ∀ w', SetI w' b n (fun y => if y = s then false else p y) → w.grownBy w' (some b) → wpList Tryz.prog ops Q rest (a.put o.dst (.tuple #[])) w') : wpList Tryz.prog ops Q (o :: rest) a w := by
 obtain ⟨D, h1, h2⟩ := h
 refine wpList_delete_own w hgd m k 176 3 ho 4 (Maps.int_keyed Tryz.underlying3) Tryz.underlying176 _ b n D hm h1 _ _ hk (Maps.keyOf_int_mk Tryz.underlying3 (keyI_wf hs)) fun w' h3 h4 => ?_
 refine hK w' ⟨_, h3, fun y => ?_⟩ h4.grown
 by_cases hy : y = s
 ·subst hy
  dsimp only
  rw [if_pos rfl]
  exact ⟨Maps.has_del_same, Maps.atKey_del_same _⟩
 ·dsimp only
  rw [if_neg hy]
  exact ⟨(Maps.has_del_other (fun e => hy (keyI_inj e))).trans (h2 y).1, (Maps.atKey_del_other (fun e => hy (keyI_inj e)) _).trans (h2 y).2⟩
/-- The range over the set: which numbers are still to come. -/
def RngI (w : World) (b r : Nat) (left : Int → Bool) (cnt : Nat) : Prop :=
 ∃ (n : Nat) (D : DataW Unit) (l : Lit → Bool), w.ranges Tryz.prog 3 (plainElem Tryz.prog 4) b r n D l cnt ∧ ∀ s, l (keyI s) = left s
theorem wp_rangeB {ops : Array Oper} {rest : List Oper} {o : Oper} {a : Act} {Q : Exit → Act → World → Prop} {w : World} {b n : Nat} {p : Int → Bool} (h : SetI w b n p) (hgd : o.guard = none) {m : Operand}
  (ho : o.op = Op.range 176 m) (hm : a.eval m = .map (some b))
  (hK : ∀ w' cnt, RngI w' b w.heap.size p cnt → Ext w w' → wpList Tryz.prog ops Q rest (a.put o.dst (.pointer (some ⟨w.heap.size, 0, none⟩))) w') : wpList Tryz.prog ops Q (o :: rest) a w := by
 obtain ⟨D, h1, h2⟩ := h
 refine wpList_range_own w hgd m 176 ho 3 4 (Maps.int_keyed Tryz.underlying3) Tryz.underlying176 _ b n D hm h1 fun w' h3 h4 h5 => ?_
 exact hK w' _ ⟨n, D, _, h3, fun s => (h2 s).1⟩ ⟨h4.os, h4.tape, h4.output, h4.size, fun i hi => h4.block i hi (by simp)⟩
set_option maxRecDepth 20000 in
theorem wp_nextB {ops : Array Oper} {rest : List Oper} {o : Oper} {a : Act} {Q : Exit → Act → World → Prop} {w : World} {b r cnt : Nat} {left : Int → Bool} (h : RngI w b r left cnt) (hgd : o.guard = none) {it : Operand}
  (ho : o.op = Op.next it false) (hit : a.eval it = .pointer (some ⟨r, 0, none⟩))
  (hDone : (∀ s, left s = false) → wpList Tryz.prog ops Q rest (a.put o.dst (.tuple #[.bool false])) w)
  (hMore : ∀ (x : Int) (u : Value) (w' : World) (cnt' : Nat), I64 x → left x = true → RngI w' b r (fun z => left z && !(z == x)) cnt' → cnt' < cnt → w.grownBy w' (some r) → w'.heap.size = w.heap.size →
   (Instr.entry (.pointer (some ⟨r, 0, none⟩))).run Tryz.prog w' = .ok (.tuple #[.int .i64 x, u]) w' → wpList Tryz.prog ops Q rest (a.put o.dst (.tuple #[.bool true, .int .i64 x, u])) w') : wpList Tryz.prog ops Q (o :: rest) a w := by
 obtain ⟨n, D, l, h1, h2⟩ := h
 refine wpList_next_ranges w hgd it ho 3 (Maps.int_keyed Tryz.underlying3) _ (Value.int .i64) Value.bool (fun key kl hkey => by obtain ⟨x, rfl, _⟩ := Maps.keyOf_int_inv Tryz.underlying3 hkey; exact ⟨x, rfl⟩)
  (fun v y hv => by obtain ⟨c, rfl, _⟩ := plainBool_inv hv; exact ⟨c, rfl⟩) b r n D l cnt hit h1 (fun _ hl => hDone fun s => by rw [← h2 s]; exact hl _) ?_
 intro x c kl y w' cnt' hkey hlk _ _ hrg hlt hg hsz hen
 obtain ⟨x', ex, rfl, hwx⟩ := Maps.keyOf_int_inv Tryz.underlying3 hkey
 cases ex
 refine hMore x (.bool c) w' cnt' ?_ ((h2 x).symm.trans hlk) ⟨n, D, _, hrg, fun s => ?_⟩ hlt hg hsz hen
 ·have h := hwx
  have m1 : IntKind.i64.min = -9223372036854775808 := by decide
  have m2 : IntKind.i64.max = 9223372036854775807 := by decide
  simp only [Lit.wf, m1, m2, Bool.and_eq_true, decide_eq_true_eq] at h
  exact h
 ·show (l (keyI s) && !(keyI s).sameKey (Lit.int .i64 x)) = _
  rw [h2 s]
  congr 1
  have hs : (keyI s).sameKey (Lit.int .i64 x) = (s == x) := by
   show decide (IntKind.i64 = IntKind.i64 ∧ s = x) = (s == x)
   rw [Bool.eq_iff_iff, decide_eq_true_eq, beq_iff_eq]
   exact ⟨fun h => h.2, fun h => ⟨rfl, h⟩⟩
  rw [hs]
end Go.Proofs.YtmofdnlefjfcfaaGreatDoor


set_option linter.unusedVariables false
set_option linter.unusedSimpArgs false
namespace Go.Proofs.YtmofdnlefjfcfaaGreatDoor
open Go.RowKit

/-- Does a reference to a map start at a slot? -/
def refersN (L : List Ins) (s : Int) : Bool := decide (atN L s ≥ 0) && (formN (L.getD (atN L s).toNat default).op == 11)
def hasN (rs : List Rel) (s : Int) : Bool := rs.any fun r => r.slot == s
theorem atN_lt {L : List Ins} {s : Int} (h : 0 ≤ atN L s) : (atN L s).toNat < L.length ∧ slotsT (L.take (atN L s).toNat) = s := by
 unfold atN at h ⊢
 split at h
 ·rename_i r hr
  obtain ⟨k, hk, hr'⟩ := List.exists_of_findSome?_eq_some hr
  have hk' : k < L.length := by simpa using hk
  split at hr'
  ·rename_i hs
   injection hr' with hr'
   subst hr'
   exact ⟨by simpa using hk', by simpa using hs⟩
  ·cases hr'
 ·omega
theorem hasN_snoc (pre : List Rel) (x : Rel) (s : Int) : hasN (pre ++ [x]) s = (hasN pre s || x.slot == s) := by simp [hasN]
end Go.Proofs.YtmofdnlefjfcfaaGreatDoor
