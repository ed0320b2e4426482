/- The layer layout, the reference: Start, At; the reference of valid: Target. -/
import Derived.Test.YtiaddncjghkajaaGreatDoorJAll
import Derived.Deep.QuietTactic
import Derived.BigQuiet
import Derived.Maps.OwnOps
import Derived.Maps.OwnSet
import Derived.Deep.DeepCutAuto
import Derived.Deep.RegionHeld3
set_option linter.unusedVariables false
set_option linter.unusedSimpArgs false
namespace Go.Proofs.YtiaddncjghkajaaGreatDoor
open Go.RowKit

set_option maxRecDepth 40000 in
set_option maxHeartbeats 4000000 in
theorem refStart_any (v : Value) (L : List Ins) (m : Nat) (w : World) (hv : IsIns w v L) (hL : L.length ≤ 1000000) (hm : m ≤ L.length) :
  Calls Tryz.prog 74 #[v, .int .i64 (m : Nat)] w fun e w' => e = .returned (.int .i64 (slotsT (L.take m))) ∧ w' = w := by
 obtain ⟨A, c, rfl, hc, -, hv'⟩ := hv.form
 go_enter Tryz.func74, Tryz.ntmps74
 go_wp2
 go_loop [5, 6] (fun s i => ∃ k : Nat, k ≤ m ∧ i = .int .i64 (k : Nat) ∧ s = .int .i64 (slotsT (L.take k))) (fun _ i => m - (RowKit.intOf i).toNat)
 case atStart => exact ⟨0, by omega, rfl, by simp [slotsT]⟩
 case round =>
  obtain ⟨k, hk, rfl, rfl⟩ := hrel
  by_cases hlt : k < m
  ·have hkL : k < L.length := by omega
   obtain ⟨x, hx⟩ : ∃ x, L[k]? = some x := ⟨_, List.getElem?_eq_getElem hkL⟩
   obtain ⟨b0, o, rfl, hE⟩ := hv'.get hx
   obtain ⟨⟨k0, k1, k2, k3, k4, k5⟩, hok⟩ := hE
   have hsx := slotsT_take hx
   have hbd := slotsT_bd (L.take (k + 1))
   have hll : (L.take (k + 1)).length ≤ k + 1 := by rw [List.length_take]; omega
   have hwr : wrap64 (slotsT (L.take k) + slotsN x.op) = slotsT (L.take (k + 1)) := by rw [← hsx]; exact wrapL _ (by omega) (by omega)
   have HSL := Go.Proofs.YtiaddncjghkajaaGreatDoor.hx fun W => ref04Slots_any x.op W hok.op
   have HWR := Go.Proofs.YtiaddncjghkajaaGreatDoor.hx hwr
   generalize slotsT (L.take k) = S1 at *
   generalize slotsN x.op = sx at *
   clear hsx hbd hll hx k1 k2 k3 k4 k5 hwr
   go_wp2_with (go_at_call 84; refine (HSL.out _).mono ?_; rintro e w1 ⟨rfl, rfl⟩)
   go_round
   case rel => exact ⟨k + 1, by omega, by go_num, by rw [HWR.out]⟩
   case measure => simp [RowKit.intOf]; omega
  ·obtain rfl : k = m := by omega
   go_wp2
   go_ret
   exact ⟨rfl, rfl⟩
/-- The instruction that starts at a slot. -/
def atN (L : List Ins) (s : Int) : Int := match (List.range L.length).findSome? (fun i => if slotsT (L.take i) = s then some (i : Int) else none) with | some i => i | none => -1
theorem atN_hit {L : List Ins} {s : Int} {k : Nat} (hk : k < L.length) (hn : ∀ j, j < k → slotsT (L.take j) ≠ s) (h : slotsT (L.take k) = s) : atN L s = k := by
 unfold atN
 rw [range_first (fun i => if slotsT (L.take i) = s then some (i : Int) else none) L.length k (k : Int) hk (fun j hj => if_neg (hn j hj)) (if_pos h)]
theorem atN_none {L : List Ins} {s : Int} (hn : ∀ j, j < L.length → slotsT (L.take j) ≠ s) : atN L s = -1 := by
 unfold atN
 have : (List.range L.length).findSome? (fun i => if slotsT (L.take i) = s then some (i : Int) else none) = none := by
  rw [List.findSome?_eq_none_iff]
  intro x hx
  exact if_neg (hn x (by simpa using hx))
 rw [this]
set_option maxRecDepth 40000 in
set_option maxHeartbeats 4000000 in
theorem refAt_any (v : Value) (L : List Ins) (s : Int) (w : World) (hv : IsIns w v L) (hL : L.length ≤ 1000000) :
  Calls Tryz.prog 40 #[v, .int .i64 s] w fun e w' => e = .returned (.int .i64 (atN L s)) ∧ w' = w := by
 obtain ⟨A, c, rfl, hc, -, hv'⟩ := hv.form
 go_enter Tryz.func40, Tryz.ntmps40
 go_wp2
 go_loop [5, 6] (fun n i => ∃ k : Nat, k ≤ L.length ∧ i = .int .i64 (k : Nat) ∧ n = .int .i64 (slotsT (L.take k)) ∧ ∀ j, j < k → slotsT (L.take j) ≠ s) (fun _ i => L.length - (RowKit.intOf i).toNat)
 case atStart => exact ⟨0, by omega, rfl, by simp [slotsT], by intro j hj; omega⟩
 case round =>
  obtain ⟨k, hk, rfl, rfl, hn⟩ := hrel
  have HN := Go.Proofs.YtiaddncjghkajaaGreatDoor.hx hn
  clear hn
  by_cases hlt : k < L.length
  ·obtain ⟨x, hx⟩ : ∃ x, L[k]? = some x := ⟨_, List.getElem?_eq_getElem hlt⟩
   obtain ⟨b0, o, rfl, hE⟩ := hv'.get hx
   obtain ⟨⟨k0, k1, k2, k3, k4, k5⟩, hok⟩ := hE
   by_cases hq : slotsT (L.take k) = s
   ·have HA := Go.Proofs.YtiaddncjghkajaaGreatDoor.hx (atN_hit hlt HN.out hq)
    have hqb : (slotsT (L.take k) == s) = true := by simpa using hq
    clear hq
    generalize slotsT (L.take k) = S1 at *
    go_wp2
    go_ret
    exact ⟨ret_int HA.out.symm, rfl⟩
   ·have hn2 : ∀ j, j < k + 1 → slotsT (L.take j) ≠ s := fun j hj => by
     rcases Nat.lt_succ_iff_lt_or_eq.1 hj with h | h
     ·exact HN.out j h
     ·rw [h]; exact hq
    have HN2 := Go.Proofs.YtiaddncjghkajaaGreatDoor.hx hn2
    have hqb : (slotsT (L.take k) == s) = false := by simpa using hq
    have hsx := slotsT_take hx
    have hbd := slotsT_bd (L.take (k + 1))
    have hll : (L.take (k + 1)).length ≤ k + 1 := by rw [List.length_take]; omega
    have hwr : wrap64 (slotsT (L.take k) + slotsN x.op) = slotsT (L.take (k + 1)) := by rw [← hsx]; exact wrapL _ (by omega) (by omega)
    have HSL := Go.Proofs.YtiaddncjghkajaaGreatDoor.hx fun W => ref04Slots_any x.op W hok.op
    have HWR := Go.Proofs.YtiaddncjghkajaaGreatDoor.hx hwr
    generalize slotsT (L.take k) = S1 at *
    generalize slotsN x.op = sx at *
    clear hsx hbd hll hx k1 k2 k3 k4 k5 hwr hq hn2
    go_wp2_with (go_at_call 84; refine (HSL.out _).mono ?_; rintro e w1 ⟨rfl, rfl⟩)
    go_round
    case rel => exact ⟨k + 1, by omega, by go_num, by rw [HWR.out], HN2.out⟩
    case measure => simp [RowKit.intOf]; omega
  ·obtain rfl : k = L.length := by omega
   have HA := Go.Proofs.YtiaddncjghkajaaGreatDoor.hx (atN_none HN.out)
   go_wp2
   go_ret
   exact ⟨ret_int HA.out.symm, rfl⟩
end Go.Proofs.YtiaddncjghkajaaGreatDoor


set_option linter.unusedVariables false
set_option linter.unusedSimpArgs false
namespace Go.Proofs.YtiaddncjghkajaaGreatDoor
open Go.RowKit

def OffOk (L : List Ins) : Prop := ∀ x ∈ L, -1000000 ≤ x.off ∧ x.off ≤ 1000000
/-- The index to which a jump leads, or -1. -/
def tgtN (L : List Ins) (i : Nat) : Int := atN L (slotsT (L.take (i + 1)) + (L.getD i default).off)
def tgtAt (L : List Ins) (i : Nat) : Int := if jumpsX (L.getD i default) then tgtN L i else -1
def tgtBadAt (L : List Ins) (i : Nat) : Bool := jumpsX (L.getD i default) && decide (tgtN L i < 0)
def tgtBad (L : List Ins) : Int := match (List.range L.length).findSome? (fun i => if tgtBadAt L i then some (i : Int) else none) with | some i => i | none => -1
def tgtL (L : List Ins) : List Int := if tgtBad L = -1 then (List.range L.length).map (tgtAt L) else []
theorem tgtBad_hit {L : List Ins} {k : Nat} (hk : k < L.length) (hn : ∀ j, j < k → tgtBadAt L j = false) (h : tgtBadAt L k = true) : tgtBad L = k := by
 unfold tgtBad
 rw [range_first (fun i => if tgtBadAt L i then some (i : Int) else none) L.length k (k : Int) hk (fun j hj => if_neg (by rw [hn j hj]; simp)) (if_pos h)]
theorem tgtBad_none {L : List Ins} (hn : ∀ j, j < L.length → tgtBadAt L j = false) : tgtBad L = -1 := by
 unfold tgtBad
 have : (List.range L.length).findSome? (fun i => if tgtBadAt L i then some (i : Int) else none) = none := by
  rw [List.findSome?_eq_none_iff]
  intro x hx
  exact if_neg (by rw [hn x (by simpa using hx)]; simp)
 rw [this]
theorem atN_bd (L : List Ins) (s : Int) : -1 ≤ atN L s ∧ atN L s < (L.length : Int) + 1 := by
 unfold atN
 split
 ·rename_i r h
  obtain ⟨k, hk, hr⟩ := List.exists_of_findSome?_eq_some h
  have hk' : k < L.length := by simpa using hk
  split at hr
  ·injection hr with hr; omega
  ·cases hr
 ·omega
set_option maxRecDepth 40000 in
set_option maxHeartbeats 4000000 in
theorem refTarget_any (v : Value) (L : List Ins) (k : Nat) (w : World) (hv : IsIns w v L) (hL : L.length ≤ 1000000) (hk : k < L.length) (ho : OffOk L) :
  Calls Tryz.prog 78 #[v, .int .i64 (k : Nat)] w fun e w' => e = .returned (.int .i64 (tgtN L k)) ∧ Ext w w' := by
 obtain ⟨A, c, rfl, hc, -, hv'⟩ := hv.form
 obtain ⟨x, hx⟩ : ∃ x, L[k]? = some x := ⟨_, List.getElem?_eq_getElem hk⟩
 have hg : L.getD k default = x := by rw [List.getD_eq_getElem?_getD, hx]; rfl
 obtain ⟨b0, o, rfl, hE⟩ := hv'.get hx
 obtain ⟨⟨k0, k1, k2, k3, k4, k5⟩, hok⟩ := hE
 have hbd := slotsT_bd (L.take (k + 1))
 have hll : (L.take (k + 1)).length ≤ k + 1 := by rw [List.length_take]; omega
 have hof := ho x (List.mem_of_getElem? hx)
 have hw1 : wrap64 ((k : Int) + 1) = (k : Int) + 1 := wrapL _ (by omega) (by omega)
 have hk1 : ((k + 1 : Nat) : Int) = (k : Int) + 1 := by omega
 have hw2 : wrap64 (slotsT (L.take (k + 1)) + x.off) = slotsT (L.take (k + 1)) + x.off := wrapL _ (by omega) (by omega)
 have hS := fun W (h : IsIns W (.slice (some ⟨b0, o, none⟩) L.length c) L) => refStart_any _ L (k + 1) W h hL (by omega)
 rw [hk1] at hS
 have HS := Go.Proofs.YtiaddncjghkajaaGreatDoor.hx hS
 have HA := Go.Proofs.YtiaddncjghkajaaGreatDoor.hx fun W (h : IsIns W (.slice (some ⟨b0, o, none⟩) L.length c) L) => refAt_any _ L (slotsT (L.take (k + 1)) + x.off) W h hL
 have hT : tgtN L k = atN L (slotsT (L.take (k + 1)) + x.off) := by unfold tgtN; rw [hg]
 rw [hT]
 have HV := Go.Proofs.YtiaddncjghkajaaGreatDoor.hx hv'
 generalize slotsT (L.take (k + 1)) = S at *
 generalize atN L (S + x.off) = R at *
 have hkl : (k : Int) < (L.length : Int) := by omega
 obtain ⟨op, reg, n1, n2, n3, n4⟩ := x
 dsimp only at *
 clear hS hk1 hv hv' hx hg hbd hll hof hT ho k0 k1 k2 k3 k5 hok
 go_enter Tryz.func78, Tryz.ntmps78
 go_wp2_with fail
 go_quiet (first | (go_at_call 74; with_reducible refine Calls.quiet_of_same (HS.out _ ?_); exact IsIns.ext HV.out ((Ext.refl w).drewN _)) | (go_at_call 40; with_reducible refine Calls.quiet_of_same (HA.out _ ?_); exact IsIns.ext HV.out ((Ext.refl w).drewN _)))
 go_wp2
 go_ret
 exact ⟨rfl, (Ext.refl w).drewN _⟩
end Go.Proofs.YtiaddncjghkajaaGreatDoor


set_option linter.unusedVariables false
set_option linter.unusedSimpArgs false
namespace Go.Proofs.YtiaddncjghkajaaGreatDoor
open Go.RowKit

theorem tgtAt_bd (L : List Ins) (i : Nat) (hL : L.length ≤ 1000000) : I64 (tgtAt L i) := by
 unfold tgtAt tgtN I64
 split
 ·have := atN_bd L (slotsT (L.take (i + 1)) + (L.getD i default).off); omega
 ·omega
set_option maxRecDepth 40000 in
set_option maxHeartbeats 4000000 in
theorem refTargets_any (v : Value) (L : List Ins) (w : World) (hv : IsIns w v L) (hL : L.length ≤ 1000000) (ho : OffOk L) :
  Calls Tryz.prog 38 #[v] w fun e w' => ∃ v', e = .returned (.tuple #[v', .int .i64 (tgtBad L)]) ∧ IsInts w' v' (tgtL L) ∧ Ext w w' := by
 obtain ⟨A, c, rfl, hc, -, hv'⟩ := hv.form
 go_enter Tryz.func38, Tryz.ntmps38
 go_wp2
 go_loopw [4, 5] (fun vo i wr => ∃ k : Nat, k ≤ L.length ∧ i = .int .i64 (k : Nat) ∧ (∀ j, j < k → tgtBadAt L j = false) ∧ OwnI wr w.heap.size vo ((List.range k).map (tgtAt L)) ∧ Ext w wr) (fun _ i _ => L.length - (RowKit.intOf i).toNat)
 case atStart => exact ⟨0, by omega, rfl, by intro j hj; omega, Own.nil _ _ _ _ _, Ext.refl _⟩
 case round =>
  obtain ⟨k, hk, rfl, hn, hown, he⟩ := hrel
  have HN := Go.Proofs.YtiaddncjghkajaaGreatDoor.hx hn
  clear hn
  obtain ⟨A4, c4, rfl⟩ := hown.slice
  by_cases hlt : k < L.length
  ·obtain ⟨x, hx⟩ : ∃ x, L[k]? = some x := ⟨_, List.getElem?_eq_getElem hlt⟩
   have hg : L.getD k default = x := by rw [List.getD_eq_getElem?_getD, hx]; rfl
   obtain ⟨b0, o, rfl, hE⟩ := (IsIns.ext hv' he).get hx
   obtain ⟨⟨k0, k1, k2, k3, k4, k5⟩, hok⟩ := hE
   have HJ := Go.Proofs.YtiaddncjghkajaaGreatDoor.hx (ref17jumps_any x wr hok)
   have HT := Go.Proofs.YtiaddncjghkajaaGreatDoor.hx fun W (h : Ext w W) => refTarget_any _ L k W (IsIns.ext hv' h) hL hlt ho
   have hta : tgtAt L k = if jumpsX x then tgtN L k else -1 := by unfold tgtAt; rw [hg]
   have hba : tgtBadAt L k = (jumpsX x && decide (tgtN L k < 0)) := by unfold tgtBadAt; rw [hg]
   have htb := tgtAt_bd L k hL
   have hrs : (List.range (k + 1)).map (tgtAt L) = (List.range k).map (tgtAt L) ++ [tgtAt L k] := by rw [List.range_succ, List.map_append]; rfl
   have hkl : (k : Int) < (L.length : Int) := by omega
   have hlm : ((List.range k).map (tgtAt L)).length = k := by simp
   have hl8 : (((List.range k).map (tgtAt L)).length + 1) * 8 ≤ 140737488355328 := by rw [hlm]; omega
   have HL8 := Go.Proofs.YtiaddncjghkajaaGreatDoor.hx hl8
   generalize hps : (List.range k).map (tgtAt L) = ps at *
   unfold Ins.v at HJ
   generalize jumpsX x = J at *
   obtain ⟨op, reg, n1, n2, n3, n4⟩ := x
   dsimp only at *
   have hnext : tgtBadAt L k = false → ∀ j, j < k + 1 → tgtBadAt L j = false := fun hb j hj => by
    rcases Nat.lt_succ_iff_lt_or_eq.1 hj with h | h
    ·exact HN.out j h
    ·rw [h]; exact hb
   have HNX := Go.Proofs.YtiaddncjghkajaaGreatDoor.hx hnext
   have HBA := Go.Proofs.YtiaddncjghkajaaGreatDoor.hx hba
   have HTA := Go.Proofs.YtiaddncjghkajaaGreatDoor.hx hta
   have HRS := Go.Proofs.YtiaddncjghkajaaGreatDoor.hx hrs
   have HLT := Go.Proofs.YtiaddncjghkajaaGreatDoor.hx hlt
   have HES := Go.Proofs.YtiaddncjghkajaaGreatDoor.hx he
   clear hx hg htb hl8 hlm hnext hba hta hrs hps hok
   cases J with
   | false =>
    go_wp2_with fail
    refine HJ.out.mono ?_
    rintro e w1 ⟨rfl, e1⟩
    have o1 := hown.ext e1
    have x1 := HES.out.trans e1
    have hxs := x1.size
    clear k0 k1 k2 k3 k4 k5 e1 he hown
    go_wp2_with (at_builtin; refine wp_app1 tyI encI_ok o1 (-1) rfl rfl rfl rfl rfl hxs (by decide) HL8.out ?_; intro g1 cap w2 o2 hg2 hat2 hbg2)
    have X2 := Go.Proofs.YtiaddncjghkajaaGreatDoor.hx (x1.grown hg2 o1.base_le)
    have O2 := Go.Proofs.YtiaddncjghkajaaGreatDoor.hx o2
    clear hg2 o2 o1 x1
    go_wp2
    go_roundw
    case rel => exact ⟨k + 1, HLT.out, by go_num, HNX.out (by rw [HBA.out]; rfl), by rw [HRS.out, HTA.out]; exact O2.out, X2.out⟩
    case measure => simp [RowKit.intOf]; omega
   | true =>
    go_wp2_with fail
    refine HJ.out.mono ?_
    rintro e w1 ⟨rfl, e1⟩
    have o1 := hown.ext e1
    have x1 := HES.out.trans e1
    clear k0 k1 k2 k3 k4 k5 e1 he hown
    go_wp2_with fail
    refine (HT.out w1 x1).mono ?_
    rintro e w2 ⟨rfl, e2⟩
    replace o1 := o1.ext e2
    replace x1 := x1.trans e2
    have hxs := x1.size
    clear e2
    by_cases hb : tgtN L k < 0
    ·have hd : decide (tgtN L k < 0) = true := decide_eq_true hb
     have hbad := tgtBad_hit (L := L) hlt HN.out (by rw [HBA.out, hd]; rfl)
     have HBD := Go.Proofs.YtiaddncjghkajaaGreatDoor.hx hbad
     clear hb hbad
     go_wp2
     go_ret2
     exact ⟨.slice none 0 0, by simp [HBD.out], by unfold tgtL; rw [HBD.out, if_neg (by omega)]; exact Sl.nil _, x1⟩
    ·have hd : decide (tgtN L k < 0) = false := decide_eq_false hb
     have HD := Go.Proofs.YtiaddncjghkajaaGreatDoor.hx hd
     clear hb
     generalize tgtN L k = T at *
     go_wp2_with (at_builtin; refine wp_app1 tyI encI_ok o1 T rfl rfl rfl rfl rfl hxs (by decide) HL8.out ?_; intro g1 cap w3 o2 hg2 hat2 hbg2)
     have X2 := Go.Proofs.YtiaddncjghkajaaGreatDoor.hx (x1.grown hg2 o1.base_le)
     have O2 := Go.Proofs.YtiaddncjghkajaaGreatDoor.hx o2
     clear hg2 o2 o1 x1
     go_wp2
     go_roundw
     case rel => exact ⟨k + 1, HLT.out, by go_num, HNX.out (by rw [HBA.out, HD.out]; rfl), by rw [HRS.out, HTA.out]; exact O2.out, X2.out⟩
     case measure => simp [RowKit.intOf]; omega
  ·obtain rfl : k = L.length := by omega
   have hb := tgtBad_none HN.out
   have HB := Go.Proofs.YtiaddncjghkajaaGreatDoor.hx hb
   have hlm : ((List.range L.length).map (tgtAt L)).length = L.length := by simp
   clear hb
   go_wp2
   go_ret2
   refine ⟨.slice A4 ((List.range L.length).map (tgtAt L)).length c4, by simp [HB.out], ?_, he⟩
   unfold tgtL
   rw [HB.out, if_pos rfl]
   exact Own.read encI_ok hown (by rw [hlm]; omega) fun x hx b o h => ⟨by simpa using h 0 _ rfl, by
    obtain ⟨i, _, rfl⟩ := List.mem_map.1 hx
    exact tgtAt_bd L i hL⟩
end Go.Proofs.YtiaddncjghkajaaGreatDoor


set_option linter.unusedVariables false
set_option linter.unusedSimpArgs false
namespace Go.Proofs.YtiaddncjghkajaaGreatDoor
open Go.RowKit Go.Lib

theorem zeroInt (w : World) : (zeroValue 3).run Tryz.prog w = .ok (.int .i64 0) w := by
 have h : (Tryz.prog.info? 3).map (fun i => i.zero) = some (some (.int .i64 0)) := by kernel_rfl
 obtain ⟨i, hi, hz⟩ := Option.map_eq_some_iff.1 h
 simp [zeroValue, typeInfo, hi, hz]
def keyI (x : Int) : Lit := .int .i64 x
theorem keyI_inj {a b : Int} (h : keyI a = keyI b) : a = b := by unfold keyI at h; injection h
theorem keyI_wf {x : Int} (h : I64 x) : (Lit.int .i64 x).wf = true := WalkArith.wf_i64 h
/-- A map from numbers to numbers, with what it has at each. -/
def MapI (w : World) (b n : Nat) (p : Int → Option Int) : Prop :=
 ∃ D : DataW Unit, w.ownsMap Tryz.prog 3 (plainElem Tryz.prog 3) b n D ∧ ∀ s, Maps.has D (keyI s) = (p s).isSome ∧ D.atKey (keyI s) (.lit (.int .i64 0)) = .lit (.int .i64 ((p s).getD 0))
theorem MapI.made (w : World) : MapI (w.alloc (.map #[] 0)) w.heap.size 0 (fun _ => none) := ⟨.map [], World.ownsMap_made _ _ _ _, fun s => ⟨rfl, rfl⟩⟩
theorem MapI.ext {w w' : World} {b n : Nat} {p : Int → Option Int} (h : MapI w b n p) (he : Ext w w') : MapI w' b n p := by
 obtain ⟨D, h1, h2⟩ := h
 exact ⟨D, h1.kept (he.toGrown none) (by simp), h2⟩
theorem MapI.kept {w w' : World} {row : Option Nat} {b n : Nat} {p : Int → Option Int} (h : MapI w b n p) (hg : w.grownBy w' row) (hne : some b ≠ row) : MapI w' b n p := by
 obtain ⟨D, h1, h2⟩ := h
 exact ⟨D, h1.kept hg hne, h2⟩
set_option maxRecDepth 20000 in
theorem MapI.look {w : World} {b n : Nat} {p : Int → Option Int} (h : MapI w b n p) (s : Int) (hs : I64 s) :
  (Instr.lookup 136 (.map (some b)) (.int .i64 s) true).run Tryz.prog w = .ok (.tuple #[.int .i64 ((p s).getD 0), .bool (p s).isSome]) w := by
 obtain ⟨D, h1, h2⟩ := h
 obtain ⟨v, ps, hr, hv⟩ := h1.look_ok (Maps.int_keyed Tryz.underlying3) Tryz.underlying136 (zeroInt w) (plainElem_int Tryz.underlying3 (by decide)) (Maps.keyOf_int_mk Tryz.underlying3 (keyI_wf hs))
 obtain ⟨c, rfl, hc, _⟩ := plainElem_int_inv Tryz.underlying3 hv
 have h3 := congrArg Prod.fst hc
 have h4 := (h2 s).2
 unfold keyI at h4
 rw [h4] at h3
 injection h3 with h3
 injection h3 with _ h3
 rw [hr, ← h3, ← (h2 s).1]
 rfl
set_option maxRecDepth 20000 in
theorem MapI.upd {w : World} {b n : Nat} {p : Int → Option Int} (h : MapI w b n p) (s x : Int) (hs : I64 s) (hxx : I64 x) (hn : n < 1000000000) :
  ∃ w', (Instr.mapUpdate 136 (.map (some b)) (.int .i64 s) (.int .i64 x)).run Tryz.prog w = .ok () w' ∧ MapI w' b (n + 1) (fun y => if y = s then some x else p y) ∧ w.grownBy w' (some b) := by
 obtain ⟨D, h1, h2⟩ := h
 obtain ⟨w', hr, h3, h4⟩ := h1.update (Maps.int_keyed Tryz.underlying3) Tryz.underlying136 (by simp only [maxLen]; omega) (Maps.keyOf_int_mk Tryz.underlying3 (keyI_wf hs)) (plainElem_int Tryz.underlying3 (keyI_wf hxx))
 refine ⟨w', hr, ⟨_, h3, fun y => ?_⟩, h4⟩
 by_cases hy : y = s
 ·subst hy
  dsimp only
  rw [if_pos rfl]
  exact ⟨Maps.has_put_same h1.isMap (by trivial) _, Maps.atKey_put_same h1.isMap (by trivial) _ _⟩
 ·dsimp only
  rw [if_neg hy]
  exact ⟨(Maps.has_put_other (fun e => hy (keyI_inj e)) _).trans (h2 y).1, (Maps.atKey_put_other (fun e => hy (keyI_inj e)) _ _).trans (h2 y).2⟩
theorem wp_mapUpdI {ops : Array Oper} {rest : List Oper} {o : Oper} {a : Act} {Q : Exit → Act → World → Prop} {w : World} {b n : Nat} {p : Int → Option Int} (h : MapI w b n p) (s x : Int) (hs : I64 s) (hxx : I64 x) (hn : n < 1000000000) (hgd : o.guard = none) {m k v : Operand}
  (ho : o.op = .mapUpdate 136 m k v) (hm : a.eval m = .map (some b)) (hk : a.eval k = .int .i64 s) (hv : a.eval v = .int .i64 x)
  (hK : ∀ w', MapI w' b (n + 1) (fun y => if y = s then some x else p y) → w.grownBy w' (some b) → wpList Tryz.prog ops Q rest (a.put o.dst undef) w') : wpList Tryz.prog ops Q (o :: rest) a w := by
 refine wpList_plain hgd fun K hK' => ?_
 obtain ⟨w', hr, h1, h2⟩ := h.upd s x hs hxx hn
 unfold Oper.wp
 simp [execOp, ho, hm, hk, hv, hr, Result.andThen]
 exact hK' _ _ (hK w' h1 h2)
end Go.Proofs.YtiaddncjghkajaaGreatDoor


set_option linter.unusedVariables false
set_option linter.unusedSimpArgs false
namespace Go.Proofs.YtiaddncjghkajaaGreatDoor
open Go.RowKit Go.Lib

/-- The first index from k on that starts at a slot. -/
def pK (L : List Ins) (k : Nat) (s : Int) : Option Int := (List.range' k (L.length - k)).findSome? (fun i => if slotsT (L.take i) = s then some (i : Int) else none)
theorem pK_end (L : List Ins) (s : Int) : pK L L.length s = none := by unfold pK; rw [Nat.sub_self]; rfl
theorem pK_step {L : List Ins} {k : Nat} (hk : k < L.length) (s : Int) : pK L k s = if s = slotsT (L.take k) then some (k : Int) else pK L (k + 1) s := by
 unfold pK
 have e : L.length - k = (L.length - (k + 1)) + 1 := by omega
 rw [e, List.range'_succ, List.findSome?_cons]
 by_cases h : slotsT (L.take k) = s
 ·rw [if_pos h, if_pos h.symm]
 ·rw [if_neg h, if_neg (fun e => h e.symm)]
theorem pK_zero (L : List Ins) (s : Int) : atN L s = (pK L 0 s).getD (-1) := by
 unfold atN pK
 rw [Nat.sub_zero, ← List.range_eq_range']
 cases (List.range L.length).findSome? (fun i => if slotsT (L.take i) = s then some (i : Int) else none) <;> rfl
theorem pK_nonneg {L : List Ins} {k : Nat} {s i : Int} (h : pK L k s = some i) : 0 ≤ i := by
 obtain ⟨j, _, hr⟩ := List.exists_of_findSome?_eq_some h
 split at hr
 ·injection hr with hr; omega
 ·cases hr
set_option maxRecDepth 40000 in
set_option maxHeartbeats 8000000 in
theorem Targets_any (v : Value) (L : List Ins) (w : World) (hv : IsIns w v L) (hL : L.length ≤ 1000000) (ho : OffOk L) (hO : OpsN w) :
  Calls Tryz.prog 37 #[v] w fun e w' => ∃ v', e = .returned (.tuple #[v', .int .i64 (tgtBad L)]) ∧ IsInts w' v' (tgtL L) ∧ Ext w w' := by
 obtain ⟨A, c, rfl, hc, -, hv'⟩ := hv.form
 have HS := hx (Starts_any _ L w hv' hL hO)
 have hmm := @run_makeMap Tryz.prog
 obtain ⟨m, hm⟩ : ∃ m, m = L.length := ⟨_, rfl⟩
 have hml : m ≤ 1000000 := by omega
 have HM := hx hm
 rw [← hm] at hv' hc hv HS ⊢
 clear hm
 go_enter Tryz.func37, Tryz.ntmps37
 go_wp2_with fail
 refine HS.out.mono ?_
 rintro e w1 ⟨vs, rfl, is1, e1⟩
 obtain ⟨As, cs, rfl, -, -, is1'⟩ := is1.form
 have hsl : (startsL L).length = m := by rw [startsL_length, ← HM.out]
 rw [hsl] at is1' ⊢
 clear HS is1
 have hw0 : wrap64 ((m : Int) - 1) = (m : Int) - 1 := wrapL _ (by omega) (by omega)
 go_wp2
 clear hmm hw0
 go_loopw [7] (fun i wr => ∃ k : Nat, k ≤ m ∧ i = .int .i64 ((k : Int) - 1) ∧ MapI wr w1.heap.size (m - k) (pK L k) ∧ Ext w1 wr) (fun i _ => (RowKit.intOf i + 1).toNat)
 case atStart => exact ⟨m, Nat.le_refl _, by simp, by
  have h := MapI.made w1
  rw [Nat.sub_self]
  have e : pK L m = fun _ => none := by funext s; rw [HM.out]; exact pK_end L s
  rw [e]; exact h, Ext.new _ _⟩
 case round =>
  obtain ⟨k, hk, rfl, hmp, he⟩ := hrel
  cases k with
  | succ k =>
   obtain ⟨S, hS⟩ : ∃ S, (startsL L)[k]? = some S := ⟨_, List.getElem?_eq_getElem (by omega)⟩
   have hSv : S = slotsT (L.take k) := by
    rw [startsL_get (by have := HM.out; omega)] at hS
    exact (Option.some.inj hS).symm
   obtain ⟨b0, o, rfl, d1, hS64⟩ := is1'.get hS
   rw [Nat.mul_one] at d1
   replace d1 := he.cell d1
   have hk1 : (((k + 1 : Nat) : Int) - 1) = (k : Int) := by omega
   rw [hk1]
   have hkm : (k : Int) < (m : Int) := by omega
   have hwk : wrap64 ((k : Int) - 1) = (k : Int) - 1 := wrapL _ (by omega) (by omega)
   have hki : I64 (k : Int) := by unfold I64; omega
   have HK := hx hk
   have HSV := hx hSv
   clear hk1 hSv hS hk hsl
   go_wp2_with (refine wp_mapUpdI hmp S k hS64 hki (by omega) rfl rfl (by rfl) (by rfl) (by rfl) ?_; intro w2 m2 g2)
   have e2 := he.grown g2 (fun k hk => by cases hk; exact Nat.le_refl _)
   have M2 := hx m2
   have E2 := hx e2
   clear hmp he g2 d1 m2 e2
   have HWK := hx hwk
   clear hwk
   go_roundw
   case rel => exact ⟨k, by have := HK.out; omega, rfl, by
    have e : (fun y => if y = S then some (k : Int) else pK L (k + 1) y) = pK L k := by
     funext y
     rw [pK_step (L := L) (k := k) (by have h1 := HK.out; have h2 := HM.out; omega) y, HSV.out]
    have h := M2.out
    rw [e] at h
    rw [show m - k = m - (k + 1) + 1 by have := HK.out; omega]
    exact h, E2.out⟩
   case measure => simp [RowKit.intOf]
  | zero =>
   have hmk := run_make_row' (P := Tryz.prog) 70 3 (.int .i64 0) 8 Tryz.underlying70 (by kernel_rfl) rfl .i64 .i64 m (by omega) (by omega)
   have ri := rowI_made wr m
   have mp := hmp.ext (Ext.new wr (.cells (madeCells #[.int .i64 0] m) 3))
   have e3 := he.trans (Ext.new wr (.cells (madeCells #[.int .i64 0] m) 3))
   obtain ⟨g, hg⟩ : ∃ g, g = wr.heap.size := ⟨_, rfl⟩
   have hgB : w1.heap.size < g := by
    obtain ⟨D, h1, _⟩ := hmp
    have := h1.lt
    omega
   go_wp2
   clear hmk
   rw [← hg]
   rw [← hg] at ri
   obtain ⟨W3, hW3⟩ : ∃ W3, W3 = wr.alloc (.cells (madeCells #[.int .i64 0] m) 3) := ⟨_, rfl⟩
   rw [← hW3] at ri mp e3 ⊢
   clear hW3 hg hmp he
   go_loopw [37] (fun i wr => ∃ k : Nat, k ≤ m ∧ i = .int .i64 (k : Nat) ∧ (∀ j, j < k → tgtBadAt L j = false) ∧ RowI wr g ((List.range k).map (tgtAt L) ++ List.replicate (m - k) 0) ∧ MapI wr w1.heap.size m (pK L 0) ∧ Ext w1 wr) (fun i _ => m - (RowKit.intOf i).toNat)
   case atStart => exact ⟨0, by omega, rfl, by intro j hj; omega, by simpa using ri, by simpa using mp, e3⟩
   case round =>
    obtain ⟨k, hk, rfl, hn, hrow, hmp2, he2⟩ := hrel
    have HN := hx hn
    clear hn ri mp e3
    by_cases hlt : k < m
    ·obtain ⟨x, hx⟩ : ∃ x, L[k]? = some x := ⟨_, List.getElem?_eq_getElem (by have := HM.out; omega)⟩
     have hgx : L.getD k default = x := by rw [List.getD_eq_getElem?_getD, hx]; rfl
     obtain ⟨bx, ox, rfl, hE⟩ := (IsIns.ext hv' (e1.trans he2)).get hx
     obtain ⟨⟨k0, k1, k2, k3, k4, k5⟩, hok⟩ := hE
     obtain ⟨S, hS⟩ : ∃ S, (startsL L)[k]? = some S := ⟨_, List.getElem?_eq_getElem (by rw [startsL_length]; have := HM.out; omega)⟩
     have hSv : S = slotsT (L.take k) := by
      rw [startsL_get (by have := HM.out; omega)] at hS
      exact (Option.some.inj hS).symm
     obtain ⟨b0, o, rfl, d1, -⟩ := is1'.get hS
     rw [Nat.mul_one] at d1
     have hst := slotsT_take hx
     have hbd := slotsT_bd (L.take (k + 1))
     have hbd0 := slotsT_bd (L.take k)
     have hll : (L.take (k + 1)).length ≤ k + 1 := by rw [List.length_take]; omega
     have hll0 : (L.take k).length ≤ k := by rw [List.length_take]; omega
     have hof := ho x (List.mem_of_getElem? hx)
     have hsx := slotsN_cases x.op
     have hta : tgtAt L k = if jumpsX x then tgtN L k else -1 := by unfold tgtAt; rw [hgx]
     have hba : tgtBadAt L k = (jumpsX x && decide (tgtN L k < 0)) := by unfold tgtBadAt; rw [hgx]
     have htn : tgtN L k = (pK L 0 (S + slotsN x.op + x.off)).getD (-1) := by unfold tgtN; rw [hgx, pK_zero, hst, hSv]
     have hpn : ∀ i, pK L 0 (S + slotsN x.op + x.off) = some i → 0 ≤ i := fun i h => pK_nonneg h
     have hwA : wrap64 (S + slotsN x.op) = S + slotsN x.op := wrapL _ (by omega) (by omega)
     have hwB : wrap64 (S + slotsN x.op + x.off) = S + slotsN x.op + x.off := wrapL _ (by omega) (by omega)
     have hTI : I64 (S + slotsN x.op + x.off) := by unfold I64; omega
     have hwC : IntKind.i64.wrap (S + slotsN x.op) = S + slotsN x.op := IntWalk.i64_in _ (by omega)
     have hwD : IntKind.i64.wrap (S + slotsN x.op + x.off) = S + slotsN x.op + x.off := IntWalk.i64_in _ (by omega)
     obtain ⟨op, reg, n1, n2, n3, n4⟩ := x
     dsimp only at *
     have HJ := Go.Proofs.YtiaddncjghkajaaGreatDoor.hx fun W (h : Ext w1 W) => insnJumps_any ⟨op, reg, n1, n2, n3, n4⟩ W hok (hO.ext (e1.trans h))
     have HSL := Go.Proofs.YtiaddncjghkajaaGreatDoor.hx fun W (h : Ext w1 W) => insnSlots_any op W hok.op (hO.ext (e1.trans h))
     have hrl : ((List.range k).map (tgtAt L) ++ List.replicate (m - k) 0)[k]? = some 0 := by
      have h0 : ((List.range k).map (tgtAt L)).length = k := by simp
      rw [List.getElem?_append_right (by rw [h0]; exact Nat.le_refl _), h0, Nat.sub_self, show m - k = (m - (k + 1)) + 1 by omega, List.replicate_succ]
      rfl
     have hset : ∀ y : Int, ((List.range k).map (tgtAt L) ++ List.replicate (m - k) 0).set k y = (List.range k).map (tgtAt L) ++ y :: List.replicate (m - (k + 1)) 0 := fun y => by
      rw [List.set_append_right _ _ (by simp), show m - k = (m - (k + 1)) + 1 by omega, List.replicate_succ]
      simp
     have hset2 : ∀ y z : Int, ((List.range k).map (tgtAt L) ++ y :: List.replicate (m - (k + 1)) 0).set k z = (List.range k).map (tgtAt L) ++ z :: List.replicate (m - (k + 1)) 0 := fun y z => by
      rw [List.set_append_right _ _ (by simp)]
      simp
     have hfin : ∀ y : Int, y = tgtAt L k → (List.range k).map (tgtAt L) ++ y :: List.replicate (m - (k + 1)) 0 = (List.range (k + 1)).map (tgtAt L) ++ List.replicate (m - (k + 1)) 0 := fun y h => by
      rw [List.range_succ, List.map_append, h]; simp
     have hgs : w1.heap.size < g ∧ g < wr.heap.size := ⟨hgB, hrow.lt⟩
     have ex := he2.trans (Ext.new wr (.cells #[.int .i64 op, .bool reg, .int .i64 n1, .int .i64 n2, .int .i64 n3, .int .i64 n4] 69))
     have e4 := ex.setCell (a := ⟨g, k, none⟩) (.int .i64 (-1)) (by simp only; omega)
     have r4 := (hrow.ext (Ext.new wr (.cells #[.int .i64 op, .bool reg, .int .i64 n1, .int .i64 n2, .int .i64 n3, .int .i64 n4] 69))).set k (-1)
     rw [hset] at r4
     have c4 := (hrow.ext (Ext.new wr (.cells #[.int .i64 op, .bool reg, .int .i64 n1, .int .i64 n2, .int .i64 n3, .int .i64 n4] 69))).cell hrl
     have f4 := (hrow.ext (Ext.new wr (.cells #[.int .i64 op, .bool reg, .int .i64 n1, .int .i64 n2, .int .i64 n3, .int .i64 n4] 69))).frozen k
     have rx := (RowV.new wr [.int .i64 op, .bool reg, .int .i64 n1, .int .i64 n2, .int .i64 n3, .int .i64 n4] 69).keep (grown_setCell (wr.alloc (.cells #[.int .i64 op, .bool reg, .int .i64 n1, .int .i64 n2, .int .i64 n3, .int .i64 n4] 69)) g k (.int .i64 (-1))) (by intro e; injection e with e; omega)
     have mp4 := (hmp2.ext (Ext.new wr (.cells #[.int .i64 op, .bool reg, .int .i64 n1, .int .i64 n2, .int .i64 n3, .int .i64 n4] 69))).kept (grown_setCell (wr.alloc (.cells #[.int .i64 op, .bool reg, .int .i64 n1, .int .i64 n2, .int .i64 n3, .int .i64 n4] 69)) g k (.int .i64 (-1))) (by intro e; injection e with e; omega)
     have q0 := rx.cell (i := 0) rfl
     have q1 := rx.cell (i := 1) rfl
     have q2 := rx.cell (i := 2) rfl
     have q3 := rx.cell (i := 3) rfl
     have q4 := rx.cell (i := 4) rfl
     have q5 := rx.cell (i := 5) rfl
     have D1 := Go.Proofs.YtiaddncjghkajaaGreatDoor.hx d1
     have HST := Go.Proofs.YtiaddncjghkajaaGreatDoor.hx hst
     have HTA := Go.Proofs.YtiaddncjghkajaaGreatDoor.hx hta
     have HBA := Go.Proofs.YtiaddncjghkajaaGreatDoor.hx hba
     have HTN := Go.Proofs.YtiaddncjghkajaaGreatDoor.hx htn
     have HPN := Go.Proofs.YtiaddncjghkajaaGreatDoor.hx hpn
     have HTI := Go.Proofs.YtiaddncjghkajaaGreatDoor.hx hTI
     have HSE := Go.Proofs.YtiaddncjghkajaaGreatDoor.hx hset2
     have HFI := Go.Proofs.YtiaddncjghkajaaGreatDoor.hx hfin
     have HGS := Go.Proofs.YtiaddncjghkajaaGreatDoor.hx hgs
     have E4 := Go.Proofs.YtiaddncjghkajaaGreatDoor.hx e4
     have R4 := Go.Proofs.YtiaddncjghkajaaGreatDoor.hx r4
     have M4 := Go.Proofs.YtiaddncjghkajaaGreatDoor.hx mp4
     have RX := Go.Proofs.YtiaddncjghkajaaGreatDoor.hx rx
     have HLT := Go.Proofs.YtiaddncjghkajaaGreatDoor.hx hlt
     have HOK := Go.Proofs.YtiaddncjghkajaaGreatDoor.hx hok
     have HWA := Go.Proofs.YtiaddncjghkajaaGreatDoor.hx hwA
     have HWB := Go.Proofs.YtiaddncjghkajaaGreatDoor.hx hwB
     have HWC := Go.Proofs.YtiaddncjghkajaaGreatDoor.hx hwC
     have HWD := Go.Proofs.YtiaddncjghkajaaGreatDoor.hx hwD
     have hkm : (k : Int) < (m : Int) := by omega
     unfold Ins.v at HJ
     generalize jumpsX ⟨op, reg, n1, n2, n3, n4⟩ = J at *
     generalize slotsN op = sx at *
     clear hst hta hba htn hpn hTI hset hset2 hfin hgs e4 r4 mp4 rx hbd hbd0 hll hll0 hof hsx hrl hSv hS hx hgx ex d1 hlt hok hwA hwB hwC hwD
     go_wp2_with fail
     refine (HJ.out _ E4.out).mono ?_
     rintro e w5 ⟨rfl, e5⟩
     have E5 := Go.Proofs.YtiaddncjghkajaaGreatDoor.hx (E4.out.trans e5)
     have R5 := Go.Proofs.YtiaddncjghkajaaGreatDoor.hx (R4.out.ext e5)
     have M5 := Go.Proofs.YtiaddncjghkajaaGreatDoor.hx (M4.out.ext e5)
     have RX5 := Go.Proofs.YtiaddncjghkajaaGreatDoor.hx (RX.out.ext e5)
     clear e5 q0 q1 q2 q3 q4 q5 c4 f4 k0 k1 k2 k3 k4 k5 E4 R4 M4 RX hmp2 hrow he2
     cases J with
     | false =>
      go_wp2
      go_roundw
      case rel =>
       repeat apply Exists.intro
       exact ⟨⟨k + 1, HLT.out, by go_num, fun j hj => (Nat.lt_succ_iff_lt_or_eq.1 hj).elim (HN.out j) (fun h => by rw [h, HBA.out]; rfl), by rw [← HFI.out (-1) (by rw [HTA.out]; rfl)]; exact R5.out, M5.out, E5.out⟩, rfl⟩
      case measure => simp [RowKit.intOf]; omega
     | true =>
      go_upto_region 13 with fail
      have hwA := HWA.out
      have hwB := HWB.out
      have hwC := HWC.out
      have hwD := HWD.out
      have L5 := Go.Proofs.YtiaddncjghkajaaGreatDoor.hx fun (W : World) (h : Ext w5 W) => And.intro ((E5.out.trans h).cell D1.out) (And.intro ((RX5.out.ext h).cell (i := 0) rfl) (And.intro ((RX5.out.ext h).cell (i := 4) rfl) ((M5.out.ext h).look (S + sx + n3) HTI.out)))
      have hd : Ext w5 w5.drew := (Ext.refl w5).drew
      have hr0 : Ext w5 w5 := Ext.refl w5
      go_cut [11, 12] (fun s11 s12 wx => s11 = .int .i64 ((pK L 0 (S + sx + n3)).getD 0) ∧ s12 = .bool (pK L 0 (S + sx + n3)).isSome ∧ Ext w5 wx)
      case first =>
       go_region_held3 (fun w' => w'.cell? ⟨b0, o + k, none⟩ = some (.int .i64 S) ∧ w'.cell? ⟨wr.heap.size, 0, none⟩ = some (.int .i64 op) ∧ w'.cell? ⟨wr.heap.size, 4, none⟩ = some (.int .i64 n3) ∧ (Instr.lookup 136 (.map (some w1.heap.size)) (.int .i64 (S + sx + n3)) true).run Tryz.prog w' = .ok (.tuple #[.int .i64 ((pK L 0 (S + sx + n3)).getD 0), .bool (pK L 0 (S + sx + n3)).isSome]) w') (first | exact L5.out _ (by assumption))
        (first | (go_at_call 83; refine (HSL.out _ (E5.out.trans (by assumption))).mono ?_; rintro e wA ⟨rfl, eA⟩; have fA : Ext w5 wA := Ext.trans (by assumption) eA))
       go_wp2
       go_meet
       exact ⟨rfl, rfl, by assumption⟩
      case rest =>
       obtain ⟨rfl, rfl, x6⟩ := hcut
       have E6 := Go.Proofs.YtiaddncjghkajaaGreatDoor.hx (E5.out.trans x6)
       have R6 := Go.Proofs.YtiaddncjghkajaaGreatDoor.hx (R5.out.ext x6)
       have M6 := Go.Proofs.YtiaddncjghkajaaGreatDoor.hx (M5.out.ext x6)
       clear L5 hd hr0 x6 hwA hwB hwC hwD
       cases hp : pK L 0 (S + sx + n3) with
       | none =>
        have htn := HTN.out
        rw [hp] at htn
        have hbad := tgtBad_hit (L := L) (by have h1 := HLT.out; have h2 := HM.out; omega) HN.out (by rw [HBA.out, htn]; rfl)
        have HBD := Go.Proofs.YtiaddncjghkajaaGreatDoor.hx hbad
        clear htn hbad hp
        go_wp2
        go_ret2
        exact ⟨.slice none 0 0, by simp [HBD.out], by unfold tgtL; rw [HBD.out, if_neg (by omega)]; exact Sl.nil _, e1.trans E6.out⟩
       | some i =>
        have htn := HTN.out
        rw [hp] at htn
        have hi0 := HPN.out i hp
        have hnb : tgtBadAt L k = false := by rw [HBA.out, htn, Option.getD_some]; simp; omega
        have hta : tgtAt L k = i := by rw [HTA.out, htn]; rfl
        have HNB := Go.Proofs.YtiaddncjghkajaaGreatDoor.hx hnb
        have hcl := R6.out.cell (i := k) (y := -1) (by rw [List.getElem?_append_right (by simp)]; simp)
        have hfz := R6.out.frozen k
        have r7 := R6.out.set k i
        rw [HSE.out, HFI.out i hta.symm] at r7
        have R7 := Go.Proofs.YtiaddncjghkajaaGreatDoor.hx r7
        have e7 := E6.out.setCell (a := ⟨g, k, none⟩) (.int .i64 i) (by have := HGS.out; simp only; omega)
        have E7 := Go.Proofs.YtiaddncjghkajaaGreatDoor.hx e7
        have m7 := M6.out.kept (grown_setCell _ g k (.int .i64 i)) (by have := HGS.out; intro e; injection e with e; omega)
        have M7 := Go.Proofs.YtiaddncjghkajaaGreatDoor.hx m7
        clear htn hi0 hnb hta r7 e7 m7 hp
        simp only [Option.getD_some, Option.isSome_some]
        go_wp2
        go_roundw
        case rel =>
         repeat apply Exists.intro
         exact ⟨⟨k + 1, HLT.out, by go_num, fun j hj => (Nat.lt_succ_iff_lt_or_eq.1 hj).elim (HN.out j) (fun h => by rw [h]; exact HNB.out), R7.out, M7.out, E7.out⟩, rfl⟩
        case measure => simp [RowKit.intOf]; omega
    ·obtain rfl : k = m := by omega
     have hb := tgtBad_none (L := L) (by rw [← HM.out]; exact HN.out)
     have HB := hx hb
     rw [Nat.sub_self, List.replicate_zero, List.append_nil] at hrow
     clear hb
     go_wp2
     go_ret2
     refine ⟨.slice (some ⟨g, 0, none⟩) k k, by simp [HB.out], ?_, e1.trans he2⟩
     unfold tgtL
     rw [HB.out, if_pos rfl, ← HM.out]
     exact hrow.read (fun x hx => by
      obtain ⟨i, _, rfl⟩ := List.mem_map.1 hx
      exact tgtAt_bd L i hL) (by simp) (by simp; omega)
end Go.Proofs.YtiaddncjghkajaaGreatDoor


set_option linter.unusedVariables false
set_option linter.unusedSimpArgs false
namespace Go.Proofs.YtiaddncjghkajaaGreatDoor
open Go.RowKit

/-- A checker in memory: its instructions and their slots. -/
def ChkP (w : World) (cb : Nat) (v0 v1 v2 : Value) (A : Option Addr) (c : Nat) (As : Option Addr) (cs m : Nat) (L : List Ins) : Prop :=
 RowV w cb 133 [v0, v1, v2, .slice A m c, .slice As m cs] ∧ IsIns w (.slice A m c) L ∧ IsInts w (.slice As m cs) (startsL L) ∧ m = L.length
theorem ChkP.ext {w w' : World} {cb : Nat} {v0 v1 v2 : Value} {A : Option Addr} {c : Nat} {As : Option Addr} {cs m : Nat} {L : List Ins} (h : ChkP w cb v0 v1 v2 A c As cs m L) (he : Ext w w') : ChkP w' cb v0 v1 v2 A c As cs m L :=
 ⟨h.1.ext he, IsIns.ext h.2.1 he, IsInts.ext h.2.2.1 he, h.2.2.2⟩
/-- The slot of the first instruction with a property. -/
def fstN (p : Ins → Bool) (L : List Ins) : Option Int := (List.range L.length).findSome? (fun i => if p (L.getD i default) then some (slotsT (L.take i)) else none)
def fstE (p : Ins → Bool) (L : List Ins) (e : Int) : Int := if (fstN p L).isSome then e else 0
theorem fstN_hit {p : Ins → Bool} {L : List Ins} {k : Nat} (hk : k < L.length) (hn : ∀ j, j < k → p (L.getD j default) = false) (h : p (L.getD k default) = true) : fstN p L = some (slotsT (L.take k)) := by
 unfold fstN
 rw [range_first (fun i => if p (L.getD i default) then some (slotsT (L.take i)) else none) L.length k _ hk (fun j hj => if_neg (by rw [hn j hj]; simp)) (if_pos h)]
theorem fstN_none {p : Ins → Bool} {L : List Ins} (hn : ∀ j, j < L.length → p (L.getD j default) = false) : fstN p L = none := by
 unfold fstN
 rw [List.findSome?_eq_none_iff]
 intro x hx
 exact if_neg (by rw [hn x (by simpa using hx)]; simp)
set_option maxRecDepth 40000 in
set_option maxHeartbeats 4000000 in
theorem first_any (cb F : Nat) (p : Ins → Bool) (e : Int) (v0 v1 v2 : Value) (A : Option Addr) (c : Nat) (As : Option Addr) (cs m : Nat) (L : List Ins) (w : World) (hP : ChkP w cb v0 v1 v2 A c As cs m L) (hL : m ≤ 1000000)
  (hF : ∀ args W, (callFunc F args).run Tryz.prog W = .ok (.enter F args) W) (hc : ∀ (x : Ins) (W : World), x.Ok → Ext w W → Calls Tryz.prog F #[x.v] W fun e w' => e = .returned (.bool (p x)) ∧ Ext W w') :
  Calls Tryz.prog 148 #[.pointer (some ⟨cb, 0, none⟩), .func (.func F) #[] #[], .int .i64 e] w fun e' w' => e' = .returned (.tuple #[.int .i64 ((fstN p L).getD 0), .int .i64 (fstE p L e)]) ∧ Ext w w' := by
 obtain ⟨hr, hi, hs, hm⟩ := hP
 have q3 := hr.cell (i := 3) rfl
 have q4 := hr.cell (i := 4) rfl
 have HM := Go.Proofs.YtiaddncjghkajaaGreatDoor.hx hm
 have HC := Go.Proofs.YtiaddncjghkajaaGreatDoor.hx hc
 clear hm hc hr
 go_enter Tryz.func148, Tryz.ntmps148
 go_wp2
 go_loopw [15] (fun i wr => ∃ k : Nat, k ≤ m ∧ i = .int .i64 (k : Nat) ∧ (∀ j, j < k → p (L.getD j default) = false) ∧ Ext w wr) (fun i _ => m - (RowKit.intOf i).toNat)
 case atStart => exact ⟨0, by omega, rfl, by intro j hj; omega, Ext.refl _⟩
 case round =>
  obtain ⟨k, hk, rfl, hn, he⟩ := hrel
  have HN := Go.Proofs.YtiaddncjghkajaaGreatDoor.hx hn
  clear hn q3
  by_cases hlt : k < m
  ·obtain ⟨x, hx⟩ : ∃ x, L[k]? = some x := ⟨_, List.getElem?_eq_getElem (by have := HM.out; omega)⟩
   have hg : L.getD k default = x := by rw [List.getD_eq_getElem?_getD, hx]; rfl
   obtain ⟨bx, ox, rfl, hE⟩ := (IsIns.ext hi he).get hx
   obtain ⟨⟨k0, k1, k2, k3, k4, k5⟩, hok⟩ := hE
   obtain ⟨S, hS⟩ : ∃ S, (startsL L)[k]? = some S := ⟨_, List.getElem?_eq_getElem (by rw [startsL_length]; have := HM.out; omega)⟩
   have hSv : S = slotsT (L.take k) := by
    rw [startsL_get (by have := HM.out; omega)] at hS
    exact (Option.some.inj hS).symm
   obtain ⟨b0, o, rfl, d1, -⟩ := hs.get hS
   rw [Nat.mul_one] at d1
   have hkm : (k : Int) < (m : Int) := by omega
   have ex := he.trans (Ext.new wr (.cells #[.int .i64 x.op, .bool x.reg, .int .i64 x.dst, .int .i64 x.src, .int .i64 x.off, .int .i64 x.imm] 69))
   have hq := HC.out x _ hok ex
   have hpx : p (L.getD k default) = p x := by rw [hg]
   have HPX := Go.Proofs.YtiaddncjghkajaaGreatDoor.hx hpx
   have HSV := Go.Proofs.YtiaddncjghkajaaGreatDoor.hx hSv
   have EX := Go.Proofs.YtiaddncjghkajaaGreatDoor.hx ex
   have HLT := Go.Proofs.YtiaddncjghkajaaGreatDoor.hx hlt
   have D1 := Go.Proofs.YtiaddncjghkajaaGreatDoor.hx d1
   have Q4 := Go.Proofs.YtiaddncjghkajaaGreatDoor.hx q4
   unfold Ins.v at hq
   obtain ⟨op, reg, n1, n2, n3, n4⟩ := x
   dsimp only at *
   generalize p ⟨op, reg, n1, n2, n3, n4⟩ = B at *
   have HQ := Go.Proofs.YtiaddncjghkajaaGreatDoor.hx hq
   clear hq hpx hSv hS hx hg ex hok d1 q4 he hlt
   cases B with
   | true =>
    go_wp2_with fail
    refine HQ.out.mono ?_
    rintro e' w5 ⟨rfl, e5⟩
    have d5 := (EX.out.trans e5).cell D1.out
    have q5 := (EX.out.trans e5).cell Q4.out
    have hf := fstN_hit (p := p) (L := L) (k := k) (by have h1 := HLT.out; have h2 := HM.out; omega) HN.out HPX.out
    have HFX := Go.Proofs.YtiaddncjghkajaaGreatDoor.hx hf
    have E6 := Go.Proofs.YtiaddncjghkajaaGreatDoor.hx (EX.out.trans e5)
    clear hf e5 k0 k1 k2 k3 k4 k5
    go_wp2
    go_ret2
    exact ⟨by simp [fstE, HFX.out, HSV.out], E6.out⟩
   | false =>
    go_wp2_with fail
    refine HQ.out.mono ?_
    rintro e' w5 ⟨rfl, e5⟩
    have E6 := Go.Proofs.YtiaddncjghkajaaGreatDoor.hx (EX.out.trans e5)
    clear e5 k0 k1 k2 k3 k4 k5
    go_wp2
    go_roundw
    case rel => exact ⟨k + 1, HLT.out, by go_num, fun j hj => (Nat.lt_succ_iff_lt_or_eq.1 hj).elim (HN.out j) (fun h => by rw [h, HPX.out]), E6.out⟩
    case measure => simp [RowKit.intOf]; omega
  ·obtain rfl : k = m := by omega
   have hf := fstN_none (p := p) (L := L) (by rw [← HM.out]; exact HN.out)
   have HFX := Go.Proofs.YtiaddncjghkajaaGreatDoor.hx hf
   clear hf
   go_wp2
   go_ret2
   exact ⟨by simp [fstE, HFX.out], he⟩
def fieldP (x : Ins) : Bool := (formN x.op == 11) && (x.imm != 0)
def writeP (x : Ins) : Bool := writesX x == 10
set_option maxRecDepth 40000 in
set_option maxHeartbeats 4000000 in
theorem fields1_any (x : Ins) (w : World) (hx0 : x.Ok) (hO : OpsN w) :
  Calls Tryz.prog 149 #[x.v] w fun e w' => e = .returned (.bool (fieldP x)) ∧ Ext w w' := by
 have e0 := Ext.new w (xCells x)
 have hc := opForm_any x.op _ hx0.op (hO.ext e0)
 have hP : fieldP x = ((formN x.op == 11) && (x.imm != 0)) := rfl
 have k5 : ((w.alloc (xCells x)).cell? ⟨w.heap.size, 5, none⟩ = some (.int .i64 x.imm)) := by simp
 have K5 := hx k5
 have E0 := hx e0
 have HP := hx hP
 have H := hx hc
 unfold Ins.v
 generalize formN x.op = F at *
 clear hO hx0 e0 k5 hc hP
 by_cases h : F = 11
 ·subst h
  go_enter Tryz.func149, Tryz.ntmps149
  go_wp2_with (go_at_call 114; refine H.out.mono ?_; rintro e w1 ⟨rfl, e1⟩; have k5 := e1.cell K5.out)
  go_ret
  exact ⟨ret_bool (by rw [HP.out]; rfl), E0.out.trans e1⟩
 ·have d : (F == 11) = false := by simpa using h
  have D := hx d
  clear h
  go_enter Tryz.func149, Tryz.ntmps149
  go_wp2_with (go_at_call 114; refine H.out.mono ?_; rintro e w1 ⟨rfl, e1⟩; have k5 := e1.cell K5.out)
  go_ret
  exact ⟨ret_bool (by rw [HP.out, D.out]; rfl), E0.out.trans e1⟩
set_option maxRecDepth 40000 in
set_option maxHeartbeats 4000000 in
theorem writes1_any (x : Ins) (w : World) (hx0 : x.Ok) (hO : OpsN w) :
  Calls Tryz.prog 150 #[x.v] w fun e w' => e = .returned (.bool (writeP x)) ∧ Ext w w' := by
 have e0 := Ext.new w (xCells x)
 have hc := insnWrites_any x _ hx0 (hO.ext e0)
 have HP := hx (show writeP x = (writesX x == 10) from rfl)
 have E0 := hx e0
 have H := hx hc
 unfold Ins.v at *
 generalize writesX x = R at *
 clear hO hx0 e0 hc
 go_enter Tryz.func150, Tryz.ntmps150
 go_wp2_with (go_at_call 151; refine H.out.mono ?_; rintro e w1 ⟨rfl, e1⟩)
 go_ret
 exact ⟨ret_bool (by rw [HP.out]), E0.out.trans e1⟩
end Go.Proofs.YtiaddncjghkajaaGreatDoor
