/- The layer object: what is parsed is no greater than its bytes. -/
import Derived.Test.YtiaddncjghkajaaGreatDoorJObj
import Derived.Test.YtiaddncjghkajaaGreatDoorJChkV
import Derived.Test.YtiaddncjghkajaaGreatDoorJOPar
import Derived.Test.YtiaddncjghkajaaGreatDoorJTab
import Derived.Test.YtiaddncjghkajaaGreatDoorJEq
import Derived.Test.YtiaddncjghkajaaGreatDoorJLayR
import Derived.Test.YtiaddncjghkajaaGreatDoorJCore
import Derived.Deep.Slices
import Derived.Deep.Fields
import Derived.ChangeSame
import Derived.Lib.SmallJoins
import Derived.ProofKit
import Derived.Test.YtiaddncjghkajaaGreatDoorRows
import Derived.Stop.LaidErr
import Derived.Lib.LaidU8
import Derived.MakeChecks
import Derived.LaidOnce
import Derived.Lay
import Derived.Test.YtiaddncjghkajaaGreatDoorJSlot
import Derived.JoinedOf
set_option linter.unusedVariables false
set_option linter.unusedSimpArgs false
namespace Go.Proofs.YtiaddncjghkajaaGreatDoor
open Go.RowKit Go.Lib

theorem pack_big (o : Ob) : 16 * o.maps.length ≤ (packOf o).length ∧ 8 * o.rels.length ≤ (packOf o).length := by
 have h := boxOf_length (secsOf o)
 have e : (packOf o).length = (boxOf (secsOf o)).length := rfl
 rw [← e] at h
 unfold secSize secsOf at h
 simp only [List.map_cons, List.map_nil, List.sum_cons, List.sum_nil, List.length_cons, List.length_nil, b4_length, defN_length, symN_length, offsOf_length, relN_length, tabOf_length] at h
 unfold up at h
 omega
theorem pa_big (b : List Int) : 16 * (paOut b).maps.length ≤ b.length ∧ 8 * (paOut b).rels.length ≤ b.length := by
 by_cases h : paOk b
 ·obtain ⟨h1, h2, h3, h4, h5, h6, h7⟩ := id h
  have : paOut b = obOf (rdOut b) := by unfold paOut; rw [if_pos h]
  rw [this]
  have := pack_big (obOf (rdOut b))
  rwa [h7] at this
 ·have h2 : paOut b = obNil := by unfold paOut; rw [if_neg h]
  rw [h2]; simp [obNil]
end Go.Proofs.YtiaddncjghkajaaGreatDoor


set_option linter.unusedVariables false
set_option linter.unusedSimpArgs false
namespace Go.Proofs.YtiaddncjghkajaaGreatDoor
open Go.RowKit

set_option maxRecDepth 40000 in
set_option maxHeartbeats 4000000 in
theorem valid_Check_any (v : Value) (o : Ob) (w : World) (h : IsOb w v o) (hm : o.maps.length ≤ 100000) (hr : o.rels.length ≤ 1000000) (hG : Glob w) (hN : NoneV w) (hO : OpsN w) (hWd : WidN w) :
  Calls Tryz.prog 30 #[v] w fun e w' => e = .returned (.tuple #[.int .i64 (chk17 o).1, .int .i64 (chk17 o).2]) ∧ Ext w w' := by
 obtain ⟨A1, c1, A2, c2, A3, c3, rfl, h'⟩ := isOb_form h
 obtain ⟨W0, hW0⟩ : ∃ W0, W0 = w.alloc (.cells #[.slice A1 o.maps.length c1, .slice A2 o.code.length c2, .slice A3 o.rels.length c3] 26) := ⟨_, rfl⟩
 have e0 : Ext w W0 := by rw [hW0]; exact Ext.new _ _
 have hC := valid_check_any _ o W0 (h'.ext e0) hm hr (hG.ext e0) (hN.ext e0) (hO.ext e0) (hWd.ext e0)
 rw [hW0] at hC
 have HW0 := hx hW0
 have HC := hx hC
 clear hW0 hC h h' hG hN hO hWd
 generalize (chk17 o).1 = C1 at *
 generalize (chk17 o).2 = C2 at *
 go_enter Tryz.func30, Tryz.ntmps30
 go_wp2_with fail
 refine HC.out.mono ?_
 rintro e w1 ⟨p, rfl, -, e1⟩
 rw [← HW0.out] at e1
 go_wp2
 go_ret2
 exact ⟨rfl, e0.trans e1⟩
set_option maxRecDepth 40000 in
set_option maxHeartbeats 4000000 in
/-- The list of a valid object, or nothing. -/
def code17 (o : Ob) : List Ins := if (chk17 o).2 = 0 then allI o.code else []
theorem valid_Code_any (v : Value) (o : Ob) (w : World) (h : IsOb w v o) (hm : o.maps.length ≤ 100000) (hr : o.rels.length ≤ 1000000) (hG : Glob w) (hN : NoneV w) (hO : OpsN w) (hWd : WidN w) :
  Calls Tryz.prog 34 #[v] w fun e w' => ∃ v', e = .returned (.tuple #[v', .int .i64 (chk17 o).2]) ∧ IsIns w' v' (code17 o) ∧ Ext w w' := by
 obtain ⟨A1, c1, A2, c2, A3, c3, rfl, h'⟩ := isOb_form h
 obtain ⟨W0, hW0⟩ : ∃ W0, W0 = w.alloc (.cells #[.slice A1 o.maps.length c1, .slice A2 o.code.length c2, .slice A3 o.rels.length c3] 26) := ⟨_, rfl⟩
 have e0 : Ext w W0 := by rw [hW0]; exact Ext.new _ _
 have hC := valid_check_any _ o W0 (h'.ext e0) hm hr (hG.ext e0) (hN.ext e0) (hO.ext e0) (hWd.ext e0)
 rw [hW0] at hC
 have HW0 := hx hW0
 have HC := hx hC
 have HCD := hx (show code17 o = if (chk17 o).2 = 0 then allI o.code else [] from rfl)
 clear hW0 hC h h' hG hN hO hWd
 unfold ChkRes at HC
 generalize code17 o = CD at *
 generalize allI o.code = L at *
 generalize (chk17 o).1 = C1 at *
 generalize (chk17 o).2 = C2 at *
 by_cases hz : C2 = 0
 ·subst hz
  have HCE := hx (HCD.out.trans (if_pos rfl))
  clear HCD
  go_enter Tryz.func34, Tryz.ntmps34
  go_wp2_with fail
  refine HC.out.mono ?_
  rintro e w1 ⟨p, rfl, hp, e1⟩
  obtain ⟨cb, v0, v1, v2, A, c, As, cs, m, rfl, hP⟩ := hp trivial
  rw [← HW0.out] at e1
  have q3 := hP.1.cell (i := 3) rfl
  have HP := hx hP.2.1
  clear hP
  go_wp2
  go_ret2
  exact ⟨_, rfl, by rw [HCE.out]; exact HP.out, e0.trans e1⟩
 ·have hz' : (C2 != 0) = true := by simpa using hz
  have HCE := hx (HCD.out.trans (if_neg hz))
  clear hz HCD
  go_enter Tryz.func34, Tryz.ntmps34
  go_wp2_with fail
  refine HC.out.mono ?_
  rintro e w1 ⟨p, rfl, -, e1⟩
  rw [← HW0.out] at e1
  go_wp2
  go_ret2
  exact ⟨_, rfl, by rw [HCE.out]; exact Sl.nil _, e0.trans e1⟩
/-- The slot and the error of bytes. -/
def byt17 (b : List Int) : Int × Int := if paErr b = 0 then chk17 (paOut b) else (0, paErr b)
set_option maxRecDepth 40000 in
set_option maxHeartbeats 4000000 in
theorem valid_Bytes_any (v : Value) (b : List Int) (w : World) (hv : IsB w v b) (hb : b.length ≤ 1000000) (hG : Glob w) (hN : NoneV w) (hO : OpsN w) (hWd : WidN w) :
  Calls Tryz.prog 32 #[v] w fun e w' => e = .returned (.tuple #[.int .i64 (byt17 b).1, .int .i64 (byt17 b).2]) ∧ Ext w w' := by
 obtain ⟨A, c, rfl, -, -, hv'⟩ := hv.form
 have hbig := pa_big b
 have HP := hx (object_Parse_any _ b w hv' hb hG hN)
 have HCK := hx fun (W : World) (hW : Ext w W) (v : Value) (ho : IsOb W v (paOut b)) => valid_Check_any v (paOut b) W ho (by omega) (by omega) (hG.ext hW) (hN.ext hW) (hO.ext hW) (hWd.ext hW)
 have HBY := hx (show byt17 b = if paErr b = 0 then chk17 (paOut b) else (0, paErr b) from rfl)
 generalize byt17 b = BY at *
 generalize paErr b = PE at *
 generalize paOut b = O at *
 clear hbig hv hv' hG hN hO hWd
 by_cases hz : PE = 0
 ·subst hz
  have HBE := hx (HBY.out.trans (if_pos rfl))
  clear HBY
  go_enter Tryz.func32, Tryz.ntmps32
  go_wp2_with fail
  refine HP.out.mono ?_
  rintro e w1 ⟨v1, rfl, i1, e1⟩
  obtain ⟨A1, c1, A2, c2, A3, c3, rfl, i1'⟩ := isOb_form i1
  have i2 := i1'.ext (Ext.new w1 (.cells #[.slice A1 O.maps.length c1, .slice A2 O.code.length c2, .slice A3 O.rels.length c3] 26))
  have x2 := e1.trans (Ext.new w1 (.cells #[.slice A1 O.maps.length c1, .slice A2 O.code.length c2, .slice A3 O.rels.length c3] 26))
  have HQ := hx (HCK.out _ x2 _ i2)
  have X2 := hx x2
  clear i1 i1' i2 x2 HCK
  generalize O.maps.length = m1 at *
  generalize O.code.length = m2 at *
  generalize O.rels.length = m3 at *
  go_wp2_with fail
  refine HQ.out.mono ?_
  rintro e w2 ⟨rfl, e2⟩
  go_wp2
  go_ret2
  exact ⟨by rw [HBE.out]; rfl, X2.out.trans e2⟩
 ·have hz' : (PE != 0) = true := by simpa using hz
  have HBE := hx (HBY.out.trans (if_neg hz))
  clear hz HBY HCK
  go_enter Tryz.func32, Tryz.ntmps32
  go_wp2_with fail
  refine HP.out.mono ?_
  rintro e w1 ⟨v1, rfl, i1, e1⟩
  obtain ⟨A1, c1, A2, c2, A3, c3, rfl, i1'⟩ := isOb_form i1
  clear i1 i1'
  generalize O.maps.length = m1 at *
  generalize O.code.length = m2 at *
  generalize O.rels.length = m3 at *
  go_wp2
  go_ret2
  exact ⟨by rw [HBE.out]; rfl, e1.trans (Ext.new _ _)⟩
end Go.Proofs.YtiaddncjghkajaaGreatDoor


set_option linter.unusedVariables false
set_option linter.unusedSimpArgs false
namespace Go.Proofs.YtiaddncjghkajaaGreatDoor
open Go.RowKit

set_option maxRecDepth 20000 in
set_option maxHeartbeats 800000 in
theorem equalI_any (va vb : Value) (a b : List Int) (w : World) (ha : IsInts w va a) (hb : IsInts w vb b) :
  Calls Tryz.prog 39 #[va, vb] w fun e w' => e = .returned (.bool (decide (a = b))) ∧ Ext w w' := by
 obtain ⟨A, c, rfl, hc, hl, ha'⟩ := ha.form
 obtain ⟨B, d, rfl, hd, hm, hb'⟩ := hb.form
 by_cases hln : a.length = b.length
 ·have hb1 : ((a.length : Int) != (b.length : Int)) = false := by simp; omega
  have HLN := hx hln
  have hlb : b.length ≤ a.length := by omega
  clear hln
  go_enter Tryz.func39, Tryz.ntmps39
  go_wp2
  go_loopw [13] (fun i wr => ∃ (pre s1 s2 : List Int), a = pre ++ s1 ∧ b = pre ++ s2 ∧ i = .int .i64 (pre.length : Nat) ∧ Ext w wr) (fun i _ => a.length - (RowKit.intOf i).toNat)
  case atStart => exact ⟨[], a, b, rfl, rfl, rfl, Ext.refl _⟩
  case round =>
   obtain ⟨pre, s1, s2, h1, h2, rfl, he⟩ := hrel
   have hs := eq_split h1 h2 HLN.out
   cases s1 with
   | cons x s1 =>
    cases s2 with
    | nil => simp at hs
    | cons y s2 =>
     have hlt : pre.length < a.length := by rw [h1]; simp
     have hlt2 : pre.length < b.length := by rw [h2]; simp
     have hvx := ha'
     rw [h1] at hvx
     obtain ⟨bb, o, rfl, d1⟩ := hvx.at
     have hvy := hb'
     rw [h2] at hvy
     obtain ⟨bc, q, rfl, d2⟩ := hvy.at
     replace d1 := he.cell d1.1
     replace d2 := he.cell d2.1
     rw [Nat.mul_one] at d1 d2
     have H1 := hx h1
     have H2 := hx h2
     clear h1 h2 hs hvx hvy
     have i0 : (0 : Int) ≤ (pre.length : Int) := by omega
     have i1 : (pre.length : Int) < (a.length : Int) := by omega
     have i2 : (pre.length : Int) < (b.length : Int) := by omega
     by_cases hxy : x = y
     ·subst hxy
      go_wp2
      go_quiet (fail)
      go_wp2
      go_roundw
      case rel => exact ⟨pre ++ [x], s1, s2, by simp [H1.out], by simp [H2.out], by simp, he.drewN _⟩
      case measure => simp [RowKit.intOf]; omega
     ·have b2 : (x != y) = true := by simpa using hxy
      have hne : Hx (decide (a = b) = false) := ⟨by simp [H1.out, H2.out, hxy]⟩
      have hxy' := hx hxy
      clear hxy
      go_wp2
      go_quiet (fail)
      go_wp2
      go_ret
      exact ⟨ret_bool hne.out.symm, he.drewN _⟩
   | nil =>
    obtain rfl : a = pre := by simpa using h1
    obtain rfl : s2 = [] := by simpa using hs.symm
    have heq : Hx (decide (a = b) = true) := ⟨by simp [h2]⟩
    clear h1 h2
    have hlt : ¬ a.length < a.length := by omega
    go_wp2
    go_ret
    exact ⟨ret_bool heq.out.symm, he⟩
 ·have hb1 : ((a.length : Int) != (b.length : Int)) = true := by simp; omega
  have hne : Hx (decide (a = b) = false) := ⟨by simp; intro e; exact hln (by rw [e])⟩
  go_enter Tryz.func39, Tryz.ntmps39
  go_wp2
  go_ret
  exact ⟨ret_bool hne.out.symm, Ext.refl _⟩

end Go.Proofs.YtiaddncjghkajaaGreatDoor


set_option linter.unusedVariables false
set_option linter.unusedSimpArgs false
namespace Go.Proofs.YtiaddncjghkajaaGreatDoor
open Go.RowKit Go.Lib

def oA : Ob := ⟨[], [149, 0, 0, 0, 0, 0, 0, 0], []⟩
theorem oA_err : obE oA = 0 := by decide +kernel
theorem oA_len : (packOf oA).length = 96 := by decide +kernel
theorem oA_pa : paOk (packOf oA) := by decide +kernel
theorem oA_pk : pkOut oA = packOf oA := by unfold pkOut; rw [if_pos oA_err]
theorem obNil_err : obE obNil = 17 := by decide +kernel
theorem nil_pa : ¬ paOk [] := by decide +kernel
theorem oA_out : paOut (packOf oA) = oA := by
 have h : obOf (rdOut (packOf oA)) = ⟨[], [149, 0, 0, 0, 0, 0, 0, 0], []⟩ := by
  have h1 : (obOf (rdOut (packOf oA))).maps.length = 0 := by decide +kernel
  have h2 : (obOf (rdOut (packOf oA))).code = [149, 0, 0, 0, 0, 0, 0, 0] := by decide +kernel
  have h3 : (obOf (rdOut (packOf oA))).rels.length = 0 := by decide +kernel
  generalize obOf (rdOut (packOf oA)) = O at *
  obtain ⟨m, c, r⟩ := O
  simp only at h1 h2 h3
  rw [List.eq_nil_of_length_eq_zero h1, h2, List.eq_nil_of_length_eq_zero h3]
 unfold paOut
 rw [if_pos oA_pa, h]; rfl
end Go.Proofs.YtiaddncjghkajaaGreatDoor


set_option linter.unusedVariables false
set_option linter.unusedSimpArgs false
namespace Go.Proofs.YtiaddncjghkajaaGreatDoor
open Go.RowKit Go.Lib

theorem isIns3 {W : World} {g : Nat} {x y z : Ins} (hr : RowV W g 69 (x.enc ++ (y.enc ++ z.enc))) (h1 : x.Ok) (h2 : y.Ok) (h3 : z.Ok) : IsIns W (.slice (some ⟨g, 0, none⟩) 3 3) [x, y, z] := by
 refine ⟨some ⟨g, 0, none⟩, 3, rfl, ⟨Nat.le_refl 3, (by decide)⟩, (by simp), (fun e => by cases e), fun i u hu => ⟨g, 0, rfl, ?_⟩⟩
 match i, hu with
 | 0, hu => obtain rfl := Option.some.inj hu; exact ⟨⟨hr.cell (i := 0) rfl, hr.cell (i := 1) rfl, hr.cell (i := 2) rfl, hr.cell (i := 3) rfl, hr.cell (i := 4) rfl, hr.cell (i := 5) rfl⟩, h1⟩
 | 1, hu => obtain rfl := Option.some.inj hu; exact ⟨⟨hr.cell (i := 6) rfl, hr.cell (i := 7) rfl, hr.cell (i := 8) rfl, hr.cell (i := 9) rfl, hr.cell (i := 10) rfl, hr.cell (i := 11) rfl⟩, h2⟩
 | 2, hu => obtain rfl := Option.some.inj hu; exact ⟨⟨hr.cell (i := 12) rfl, hr.cell (i := 13) rfl, hr.cell (i := 14) rfl, hr.cell (i := 15) rfl, hr.cell (i := 16) rfl, hr.cell (i := 17) rfl⟩, h3⟩
 | n + 3, hu => simp at hu
theorem isInts3 {W : World} {g : Nat} {x y z : Int} (hr : RowV W g 3 [.int .i64 x, .int .i64 y, .int .i64 z]) (h1 : I64 x) (h2 : I64 y) (h3 : I64 z) : IsInts W (.slice (some ⟨g, 0, none⟩) 3 3) [x, y, z] := by
 refine ⟨some ⟨g, 0, none⟩, 3, rfl, ⟨Nat.le_refl 3, (by decide)⟩, (by simp), (fun e => by cases e), fun i u hu => ⟨g, 0, rfl, ?_⟩⟩
 match i, hu with
 | 0, hu => obtain rfl := Option.some.inj hu; exact ⟨hr.cell (i := 0) rfl, h1⟩
 | 1, hu => obtain rfl := Option.some.inj hu; exact ⟨hr.cell (i := 1) rfl, h2⟩
 | 2, hu => obtain rfl := Option.some.inj hu; exact ⟨hr.cell (i := 2) rfl, h3⟩
 | n + 3, hu => simp at hu
theorem isB_set {W : World} {g : Nat} {t : TypeId} {l : List Value} {v : Value} {L : List Int} (h : IsB W v L) (r : RowV W g t l) (i : Nat) (hl : ∀ x, l[i]? ≠ some (.int .u8 x)) (u : Value) : IsB (W.setCell ⟨g, i, none⟩ u) v L :=
 Sl.ext h fun b o x k => ⟨by
  by_cases hb : b = g
  ·subst hb
   have k1 := k.1
   have h1 : l[o]? = some (.int .u8 x) := by
    simp only [World.cell?, show W.heap[b]? = _ from r] at k1
    simpa using k1
   have hne : i ≠ o := fun e => by subst e; exact hl x h1
   exact (r.set i u).cell (by rw [List.getElem?_set_ne hne]; exact h1)
  ·have k1 := k.1
   simp only [World.cell?, World.setCell, Array.getElem?_modify, if_neg (fun e : g = b => hb e.symm)] at k1 ⊢
   exact k1, k.2⟩
theorem rowO_set {W : World} {g G : Nat} {v1 v2 v3 : Value} (h : RowO W G v1 v2 v3) (hne : g ≠ G) (i : Nat) (u : Value) : RowO (W.setCell ⟨g, i, none⟩ u) G v1 v2 v3 := by
 unfold RowO at *
 simp only [World.setCell, Array.getElem?_modify, if_neg hne]
 exact h
theorem joinX_small (L : List Ins) (c : List Int) (hc : L.flatMap encX = c) (hl : c.length = 32) (hb : Byt c) (hL : L.length ≤ 1000) (hE : ∀ x ∈ L, EncSm x) (v : Value) (W : World) (hv : IsIns W v L) :
  Calls Tryz.prog 66 #[v] W fun e w' => ∃ A c', e = .returned (.slice A 32 c') ∧ IsB w' (.slice A 32 c') c ∧ Ext W w' :=
 (refJoinX_any v L W hv hL hE).mono fun e w' ⟨v', h1, h2, h3⟩ => by
  rw [hc] at h2
  obtain ⟨A, c', rfl, -, -, h4⟩ := (h2.read (fun x hx => hb x hx) (by rw [hl]; decide) : IsB w' v' c).form
  rw [hl] at h1 h4
  exact ⟨A, c', h1, h4, h3⟩
theorem byt17A : Byt c17A := by rw [c17A_eq]; intro x hx; simp at hx; omega
theorem byt17B : Byt c17B := by rw [c17B_eq]; intro x hx; simp at hx; omega
theorem code17A : code17 o17A = l17A := by unfold code17; rw [chk17A, if_pos rfl]; exact allI17A
theorem byt17_nil : byt17 [] = (0, 19) := by
 unfold byt17 paErr
 rw [if_neg nil_pa, if_neg (by decide)]
set_option maxRecDepth 40000 in
set_option maxHeartbeats 8000000 in
theorem alive17_any (w : World) (hG : Glob w) (hN : NoneV w) (hO : OpsN w) (hWd : WidN w) : Calls Tryz.prog 29 #[] w fun e w' => e = .returned (.bool true) ∧ Ext w w' := by
 have CJA := hx fun (v : Value) (W : World) (hv : IsIns W v l17A) => joinX_small l17A c17A rfl (by rw [c17A_eq]; rfl) byt17A (by decide) sm17A v W hv
 have CJB := hx fun (v : Value) (W : World) (hv : IsIns W v l17B) => joinX_small l17B c17B rfl (by rw [c17B_eq]; rfl) byt17B (by decide) sm17B v W hv
 have CKA := hx fun (W : World) (hW : Ext w W) (v : Value) (ho : IsOb W v o17A) => (valid_Check_any v o17A W ho (by decide) (by decide) (hG.ext hW) (hN.ext hW) (hO.ext hW) (hWd.ext hW)).mono (R' := fun e w' => e = .returned (.tuple #[.int .i64 0, .int .i64 0]) ∧ Ext W w') fun e w' ⟨h1, h2⟩ => ⟨by rw [h1, chk17A], h2⟩
 have CKB := hx fun (W : World) (hW : Ext w W) (v : Value) (ho : IsOb W v o17B) => (valid_Check_any v o17B W ho (by decide) (by decide) (hG.ext hW) (hN.ext hW) (hO.ext hW) (hWd.ext hW)).mono (R' := fun e w' => e = .returned (.tuple #[.int .i64 0, .int .i64 13]) ∧ Ext W w') fun e w' ⟨h1, h2⟩ => ⟨by rw [h1, chk17B], h2⟩
 have CCD := hx fun (W : World) (hW : Ext w W) (v : Value) (ho : IsOb W v o17A) => (valid_Code_any v o17A W ho (by decide) (by decide) (hG.ext hW) (hN.ext hW) (hO.ext hW) (hWd.ext hW)).mono (R' := fun e w' => ∃ A c, e = .returned (.tuple #[.slice A 3 c, .int .i64 0]) ∧ IsIns w' (.slice A 3 c) l17A ∧ Ext W w') fun e w' ⟨v', h1, h2, h3⟩ => by
  rw [code17A] at h2
  obtain ⟨A, c, rfl, -, -, h4⟩ := h2.form
  exact ⟨A, c, by rw [h1, chk17A]; rfl, h4, h3⟩
 have CTG := hx fun (W : World) (hW : Ext w W) (v : Value) (hv : IsIns W v l17A) => (Targets_any v l17A W hv (by decide) off17A (hO.ext hW)).mono (R' := fun e w' => ∃ A c, e = .returned (.tuple #[.slice A 3 c, .int .i64 (-1)]) ∧ IsInts w' (.slice A 3 c) [1, -1, -1] ∧ Ext W w') fun e w' ⟨v', h1, h2, h3⟩ => by
  rw [tgt17A] at h2
  obtain ⟨A, c, rfl, -, -, h4⟩ := h2.form
  exact ⟨A, c, by rw [h1, bad17A]; rfl, h4, h3⟩
 have CBY := hx fun (W : World) (hW : Ext w W) => (valid_Bytes_any (.slice none 0 0) [] W (Sl.nil _) (by decide) (hG.ext hW) (hN.ext hW) (hO.ext hW) (hWd.ext hW)).mono (R' := fun e w' => e = .returned (.tuple #[.int .i64 0, .int .i64 19]) ∧ Ext W w') fun e w' ⟨h1, h2⟩ => ⟨by rw [h1, byt17_nil], h2⟩
 have CEQ := hx fun (va vb : Value) (W : World) (ha : IsInts W va [1, -1, -1]) (hb : IsInts W vb [1, -1, -1]) => (equalI_any va vb _ _ W ha hb).mono (R' := fun e w' => e = .returned (.bool true) ∧ Ext W w') fun e w' h => by simpa using h
 clear hG hN hO hWd
 have okA : ∀ x ∈ l17A, x.Ok := fun x hx => (sm17A x hx).ok
 have okB : ∀ x ∈ l17B, x.Ok := fun x hx => (sm17B x hx).ok
 obtain ⟨W1, hW1⟩ : ∃ W1, W1 = w.alloc (.cells #[.int .i64 44, .bool false, .int .i64 0, .int .i64 0, .int .i64 0, .int .i64 0, .int .i64 84, .bool false, .int .i64 0, .int .i64 0, .int .i64 0, .int .i64 5, .int .i64 68, .bool false, .int .i64 0, .int .i64 0, .int .i64 0, .int .i64 0] 69) := ⟨_, rfl⟩
 have x1 : Ext w W1 := by rw [hW1]; exact Ext.new _ _
 have r1 : RowV W1 w.heap.size 69 ((⟨44, false, 0, 0, 0, 0⟩ : Ins).enc ++ ((⟨84, false, 0, 0, 0, 5⟩ : Ins).enc ++ (⟨68, false, 0, 0, 0, 0⟩ : Ins).enc)) := by rw [hW1]; exact RowV.new _ _ _
 have i1 : IsIns W1 (.slice (some ⟨w.heap.size, 0, none⟩) 3 3) l17A := isIns3 r1 (okA _ (by simp [l17A])) (okA _ (by simp [l17A])) (okA _ (by simp [l17A]))
 have hJ := CJA.out _ _ i1
 rw [hW1] at hJ
 have HJ := hx hJ
 have HW1 := hx hW1
 clear hJ hW1 CJA i1
 go_enter Tryz.func29, Tryz.ntmps29
 go_wp2_with fail
 refine HJ.out.mono ?_
 rintro e w2 ⟨A, c, rfl, i2, x2⟩
 rw [← HW1.out] at x2
 clear HJ HW1
 obtain ⟨W3, hW3⟩ : ∃ W3, W3 = w2.alloc (.cells #[.slice none 0 0, .slice A 32 c, .slice none 0 0] 26) := ⟨_, rfl⟩
 have x3 : Ext w2 W3 := by rw [hW3]; exact Ext.new _ _
 have o3 : RowO W3 w2.heap.size (.slice none 0 0) (.slice A 32 c) (.slice none 0 0) := by rw [hW3]; exact rowO_new _ _ _ _
 have r3 := r1.ext (x2.trans x3)
 have hlt : w.heap.size ≠ w2.heap.size := by have := r1.lt; have := x2.size; omega
 have p3 := r3.frozen 4
 have p4 := r3.cell (i := 4) rfl
 have o4 := rowO_set o3 hlt 4 (.int .i64 1)
 have b4 := isB_set (IsB.ext i2 x3) r3 4 (by intro x; simp [Ins.enc]) (.int .i64 1)
 have r4 := r3.set 4 (.int .i64 1)
 have x4 : Ext w (W3.setCell ⟨w.heap.size, 4, none⟩ (.int .i64 1)) := (x1.trans (x2.trans x3)).setCell (a := ⟨w.heap.size, 4, none⟩) _ (Nat.le_refl _)
 have i4 : IsIns (W3.setCell ⟨w.heap.size, 4, none⟩ (.int .i64 1)) (.slice (some ⟨w.heap.size, 0, none⟩) 3 3) l17B := isIns3 (x := ⟨44, false, 0, 0, 1, 0⟩) (y := ⟨84, false, 0, 0, 0, 5⟩) (z := ⟨68, false, 0, 0, 0, 0⟩) r4 (okB _ (by simp [l17B])) (okB _ (by simp [l17B])) (okB _ (by simp [l17B]))
 have hJ := CJB.out _ _ i4
 generalize hg2 : w2.heap.size = g2 at *
 have HJ := hx hJ
 rw [hW3] at p3 p4
 have HW3 := hx hW3
 have B4 := hx b4
 have X4 := hx x4
 have O4 := hx o4
 clear hJ hW3 CJB i4 r4 r3 o3 x3 r1 x1 x2 i2 b4 x4 o4 hlt
 go_wp2_with fail
 rw [← HW3.out]
 refine HJ.out.mono ?_
 rintro e w5 ⟨A5, c5, rfl, i5, x5⟩
 clear p3 p4 HW3 HJ
 obtain ⟨W6, hW6⟩ : ∃ W6, W6 = w5.alloc (.cells #[.slice none 0 0, .slice A5 32 c5, .slice none 0 0] 26) := ⟨_, rfl⟩
 have x6 : Ext w5 W6 := by rw [hW6]; exact Ext.new _ _
 have o6 : RowO W6 w5.heap.size (.slice none 0 0) (.slice A5 32 c5) (.slice none 0 0) := by rw [hW6]; exact rowO_new _ _ _ _
 have i6 := IsB.ext i5 x6
 have s6 := O4.out.ext (x5.trans x6)
 have j6 := IsB.ext B4.out (x5.trans x6)
 have E6 := X4.out.trans (x5.trans x6)
 have obA : IsOb W6 (.agg #[.slice none 0 0, .slice A 32 c, .slice none 0 0]) o17A := ⟨_, _, _, rfl, Sl.nil _, j6, Sl.nil _⟩
 have obB : IsOb W6 (.agg #[.slice none 0 0, .slice A5 32 c5, .slice none 0 0]) o17B := ⟨_, _, _, rfl, Sl.nil _, i6, Sl.nil _⟩
 have k0 := s6.c0
 have k1 := s6.c1
 have k2 := s6.c2
 have hK := CKA.out W6 E6 _ obA
 rw [hW6] at k0 k1 k2
 have HK := hx hK
 have HW6 := hx hW6
 have OBA := hx obA
 have OBB := hx obB
 have S6 := hx s6
 have O6 := hx o6
 have EE6 := hx E6
 clear hK hW6 CKA obA obB s6 o6 E6 x5 x6 i5 i6 j6
 go_wp2_with fail
 rw [← HW6.out]
 refine HK.out.mono ?_
 rintro e w7 ⟨rfl, x7⟩
 clear k0 k1 k2 HK HW6
 have t7 := O6.out.ext x7
 have k0 := t7.c0
 have k1 := t7.c1
 have k2 := t7.c2
 clear t7
 go_wp2_with fail
 refine (CKB.out w7 (EE6.out.trans x7) _ (OBB.out.ext x7)).mono ?_
 rintro e w8 ⟨rfl, x8⟩
 clear k0 k1 k2
 have t8 := S6.out.ext (x7.trans x8)
 have k0 := t8.c0
 have k1 := t8.c1
 have k2 := t8.c2
 clear t8
 go_wp2_with fail
 refine (CCD.out w8 (EE6.out.trans (x7.trans x8)) _ (OBA.out.ext (x7.trans x8))).mono ?_
 rintro e w9 ⟨A9, c9, rfl, i9, x9⟩
 clear k0 k1 k2
 have E9 := EE6.out.trans (x7.trans (x8.trans x9))
 go_wp2_with fail
 refine (CTG.out w9 E9 _ i9).mono ?_
 rintro e w10 ⟨A10, c10, rfl, i10, x10⟩
 go_wp2_with fail
 refine (CBY.out w10 (E9.trans x10)).mono ?_
 rintro e w11 ⟨rfl, x11⟩
 have y1 := Ext.new w11 (.cells #[.int .i64 1, .int .i64 (-1), .int .i64 (-1)] 3)
 have r11 := RowV.new w11 [.int .i64 1, .int .i64 (-1), .int .i64 (-1)] 3
 have hQ := CEQ.out _ _ _ (IsInts.ext i10 (x11.trans y1)) (isInts3 r11 (i64s _ (by decide)) (i64s _ (by decide)) (i64s _ (by decide)))
 have HQ := hx hQ
 have E11 := hx (E9.trans (x10.trans (x11.trans y1)))
 clear hQ r11 y1 i10 i9 x7 x8 x9 x10 x11 E9
 go_wp2_with fail
 refine HQ.out.mono ?_
 rintro e w12 ⟨rfl, x12⟩
 go_wp2
 go_ret
 exact ⟨rfl, E11.out.trans x12⟩
end Go.Proofs.YtiaddncjghkajaaGreatDoor


set_option linter.unusedVariables false
set_option linter.unnecessarySimpa false
set_option linter.unusedSimpArgs false
namespace Go.Proofs.YtiaddncjghkajaaGreatDoor
open Go.Joins Go.ChangeShapes Go.WideShapes Go.RowKit Go.Deep

section
variable {H : Type} {enc : TypeId × Value → H} {P : Program} {w : World} {base : Nat} {spare : Nat → Bool} {held : Bool}
theorem all_split {a b : List Nat} {p : Nat → Bool} (h : (a ++ b).all p = true) : a.all p = true ∧ b.all p = true := by simpa using h
theorem weightsAll_mem {e : TypeId} {p : Nat → Bool} : ∀ {l : List (DataW H)}, (DataW.weightsAll P e l).all p = true → ∀ d ∈ l, (d.weights P e).all p = true := by
 intro l
 induction l with
 | nil => intro _ d hd; cases hd
 | cons x l ih =>
  intro h d hd
  rw [DataW.weightsAll] at h
  obtain ⟨h1, h2⟩ := all_split h
  rcases List.mem_cons.1 hd with rfl | hd
  ·exact h1
  ·exact ih h2 d hd
theorem plain_at {a : Addr} {v : Value} (h : w.cell? a = some v) : a = ⟨a.block, a.off, none⟩ := by
 unfold World.cell? at h
 split at h
 ·split at h
  ·cases h
  ·rename_i hs
   obtain ⟨b, o, s⟩ := a
   cases s with
   | none => rfl
   | some _ => simp at hs
 ·cases h
theorem sl_of_trod {α : Type} {sz bytes : Nat} {E : World → Nat → Nat → α → Prop} {t e : TypeId} (ht : P.underlying t = some (.slice e)) (hC : P.cellsOf e = sz) (hsz : 0 < sz) (hbt : P.bytesOf e = bytes) (hb1 : 1 ≤ bytes)
  (hel : ∀ (n : Nat) (cs' : List Value) (d : DataW H) (ps : List MemPlace), DataW.trod enc P w base spare held n e cs' = some (d, ps) → cs'.length = sz → (d.weights P e).all (· ≤ reachBytes) = true →
   ∃ y : α, ∀ b o, (∀ j, j < sz → w.cell? ⟨b, o + j, none⟩ = cs'[j]?) → E w b o y)
  {fuel : Nat} {v : Value} {x : DataW H × List MemPlace} (h : DataW.trod enc P w base spare held fuel t [v] = some x) (hw : (x.1.weights P t).all (· ≤ reachBytes) = true) : ∃ l : List α, Sl sz E w v l := by
 rcases open_slice ht h with ⟨hv, _⟩ | ⟨a, len, cap, m, n, D, Pl, hcs, hb, hl, hm, hmm, hx, hi⟩
 ·obtain rfl : v = .slice none 0 0 := by simpa using hv
  exact ⟨[], Sl.nil w⟩
 ·obtain rfl : v = .slice (some a) len cap := by simpa using hcs
  subst hx
  have hlm : len ≤ m := by rw [hmm]; split <;> omega
  simp only [DataW.weights, ht, List.all_cons, Bool.and_eq_true, decide_eq_true_eq, List.length_map, List.length_range] at hw
  obtain ⟨hw1, hw2⟩ := hw
  obtain ⟨hw2, hw3⟩ := all_split hw2
  have hlb : len ≤ 281474976710656 := by
   rw [hbt] at hw1
   have h1 : len + (m - len) ≤ (len + (m - len)) * bytes := Nat.le_mul_of_pos_right _ hb1
   have h2 : reachBytes = 140737488351232 := rfl
   omega
  have hD : ∀ i, i < len → ((D i).weights P e).all (· ≤ reachBytes) = true := fun i hi' => weightsAll_mem hw2 _ (List.mem_map.2 ⟨i, List.mem_range.2 hi', rfl⟩)
  have key : ∀ i : Fin len, ∃ y : α, ∀ b o, (∀ j, j < sz → w.cell? ⟨b, o + j, none⟩ = w.cell? (a.add (i.1 * sz + j))) → E w b o y := fun i => by
   obtain ⟨cs', hc, htr⟩ := hi i.1 (by omega)
   rw [hC] at hc
   obtain ⟨_, hcl, hat⟩ := World.cells?_some hc
   obtain ⟨y, hy⟩ := hel n cs' _ _ htr hcl (hD i.1 i.2)
   refine ⟨y, fun b o hbo => hy b o fun j hj => ?_⟩
   rw [hbo j hj, ← hat j hj, add_add]
  let f : Fin len → α := fun i => Classical.choose (key i)
  have hf : ∀ i : Fin len, ∀ b o, (∀ j, j < sz → w.cell? ⟨b, o + j, none⟩ = w.cell? (a.add (i.1 * sz + j))) → E w b o (f i) := fun i => Classical.choose_spec (key i)
  refine ⟨(List.finRange len).map f, some a, cap, by simp, by simp; omega, by simpa using hlb, (fun h => by cases h), fun i x hxi => ?_⟩
  rw [List.getElem?_map, Option.map_eq_some_iff] at hxi
  obtain ⟨i', hi', rfl⟩ := hxi
  have hil : i < len := by have := (List.getElem?_eq_some_iff.1 hi').1; simpa using this
  obtain rfl : i' = ⟨i, hil⟩ := by
   have := (List.getElem?_eq_some_iff.1 hi').2
   simpa using this.symm
  have hpl : a = ⟨a.block, a.off, none⟩ := by
   obtain ⟨cs', hc, _⟩ := hi 0 (by omega)
   rw [hC] at hc
   obtain ⟨_, hcl, hat⟩ := World.cells?_some hc
   have h0 := hat 0 hsz
   rw [Nat.zero_mul] at h0
   have he : (a.add 0).add 0 = a := by simp [Addr.add]
   rw [he] at h0
   exact plain_at (v := cs'[0]'(by omega)) (by rw [h0]; exact List.getElem?_eq_getElem (by omega))
  refine ⟨a.block, a.off, by rw [← hpl], hf ⟨i, hil⟩ _ _ fun j hj => ?_⟩
  have : a.add (i * sz + j) = ⟨a.block, a.off + (i * sz + j), none⟩ := by rw [hpl]; exact add_plain _ _ _
  rw [this, Nat.add_assoc]
end

section
variable {H : Type} {enc : TypeId × Value → H} {w : World} {base : Nat} {spare : Nat → Bool} {held : Bool}
theorem wf_i64 {z : Int} (h : (Lit.int .i64 z).wf = true) : I64 z := by
 have : -9223372036854775808 ≤ z ∧ z ≤ 9223372036854775807 := by simpa [Lit.wf, IntKind.min, IntKind.max, IntKind.signed, IntKind.bits] using h
 exact this
theorem wf_u8 {z : Int} (h : (Lit.int .u8 z).wf = true) : 0 ≤ z ∧ z < 256 := by
 have : 0 ≤ z ∧ z ≤ 255 := by simpa [Lit.wf, IntKind.min, IntKind.max, IntKind.signed, IntKind.bits] using h
 omega
theorem isB_of_trod {fuel : Nat} {v : Value} {x : DataW H × List MemPlace} (h : DataW.trod enc Tryz.prog w base spare held fuel 23 [v] = some x) (hw : (x.1.weights Tryz.prog 23).all (· ≤ reachBytes) = true) : ∃ l, IsB w v l :=
 sl_of_trod (sz := 1) (bytes := 1) Tryz.underlying23 (by kernel_rfl) (by decide) (by kernel_rfl) (by decide) (fun n cs' d ps ht hl _ => by
  obtain ⟨z, rfl, _, hz⟩ := DataW.trod_int Tryz.underlying5 ht
  refine ⟨z, fun b o hc => ⟨by simpa using hc 0 (by decide), wf_u8 hz⟩⟩) h hw
set_option maxRecDepth 100000 in
theorem isDefs_of_trod {fuel : Nat} {v : Value} {x : DataW H × List MemPlace} (h : DataW.trod enc Tryz.prog w base spare held fuel 22 [v] = some x) (hw : (x.1.weights Tryz.prog 22).all (· ≤ reachBytes) = true) : ∃ l, IsDefs w v l :=
 sl_of_trod (sz := 4) (bytes := 40) Tryz.underlying22 (by kernel_rfl) (by decide) (by kernel_rfl) (by decide) (fun n cs' d ps ht hl hwd => by
  obtain ⟨xs, n', _, hx, _, hxl, hf⟩ := DataW.trod_struct Tryz.underlying81 ht
  match cs', hl with
  | [c0, c1, c2, c3], _ =>
   match xs, hxl with
   | [y0, y1, y2, y3], _ =>
    have k9 : Tryz.prog.cellsOf 9 = 1 := by kernel_rfl
    have k3 : Tryz.prog.cellsOf 3 = 1 := by kernel_rfl
    have h0 := hf 0 _ rfl
    have h1 := hf 1 _ rfl
    have h2 := hf 2 _ rfl
    have h3 := hf 3 _ rfl
    simp only [k9, k3, List.drop_zero, List.drop_succ_cons, List.take_succ_cons, List.take_zero, List.getElem?_cons_zero, List.getElem?_cons_succ] at h0 h1 h2 h3
    obtain ⟨s, e0, f0, _⟩ := DataW.trod_string Tryz.underlying9 h0
    obtain ⟨z1, e1, f1, w1⟩ := DataW.trod_int Tryz.underlying3 h1
    obtain ⟨z2, e2, f2, w2⟩ := DataW.trod_int Tryz.underlying3 h2
    obtain ⟨z3, e3, f3, w3⟩ := DataW.trod_int Tryz.underlying3 h3
    obtain rfl : c0 = .string s := by simpa [k9] using e0
    obtain rfl : c1 = .int .i64 z1 := by simpa [k3] using e1
    obtain rfl : c2 = .int .i64 z2 := by simpa [k3] using e2
    obtain rfl : c3 = .int .i64 z3 := by simpa [k3] using e3
    have hd : d = .agg [.lit (.string s.data.toList), .lit (.int .i64 z1), .lit (.int .i64 z2), .lit (.int .i64 z3)] := by
     have := congrArg Prod.fst hx
     simpa [f0, f1, f2, f3] using this
    subst hd
    have hs : s.size ≤ 140737488355328 := by
     simp [DataW.weights, DataW.weightsEach, Tryz.underlying81] at hwd
     have h2 : reachBytes = 140737488351232 := rfl
     have h3 : s.data.toList.length = s.size := by simp
     simp at h3 hwd
     omega
    exact ⟨⟨s, z1, z2, z3⟩, fun b o hc => ⟨⟨by simpa using hc 0 (by decide), by simpa using hc 1 (by decide), by simpa using hc 2 (by decide), by simpa using hc 3 (by decide)⟩, ⟨hs, wf_i64 w1, wf_i64 w2, wf_i64 w3⟩⟩⟩) h hw
set_option maxRecDepth 100000 in
theorem isRels_of_trod {fuel : Nat} {v : Value} {x : DataW H × List MemPlace} (h : DataW.trod enc Tryz.prog w base spare held fuel 24 [v] = some x) (hw : (x.1.weights Tryz.prog 24).all (· ≤ reachBytes) = true) : ∃ l, IsRels w v l :=
 sl_of_trod (sz := 2) (bytes := 16) Tryz.underlying24 (by kernel_rfl) (by decide) (by kernel_rfl) (by decide) (fun n cs' d ps ht hl hwd => by
  obtain ⟨xs, n', _, hx, _, hxl, hf⟩ := DataW.trod_struct Tryz.underlying78 ht
  match cs', hl with
  | [c0, c1], _ =>
   match xs, hxl with
   | [y0, y1], _ =>
    have k3 : Tryz.prog.cellsOf 3 = 1 := by kernel_rfl
    have h0 := hf 0 _ rfl
    have h1 := hf 1 _ rfl
    simp only [k3, List.drop_zero, List.drop_succ_cons, List.take_succ_cons, List.take_zero, List.getElem?_cons_zero, List.getElem?_cons_succ] at h0 h1
    obtain ⟨z1, e1, f1, w1⟩ := DataW.trod_int Tryz.underlying3 h0
    obtain ⟨z2, e2, f2, w2⟩ := DataW.trod_int Tryz.underlying3 h1
    obtain rfl : c0 = .int .i64 z1 := by simpa [k3] using e1
    obtain rfl : c1 = .int .i64 z2 := by simpa [k3] using e2
    exact ⟨⟨z1, z2⟩, fun b o hc => ⟨⟨by simpa using hc 0 (by decide), by simpa using hc 1 (by decide)⟩, ⟨wf_i64 w1, wf_i64 w2⟩⟩⟩) h hw
set_option maxRecDepth 100000 in
theorem isOb_of_trod {base' : Nat} {v : Value} {d : DataW H} {p : List MemPlace} (hv : Value.okWide Tryz.prog w .any base' 26 v) (h : DataW.Trod enc Tryz.prog w base spare held 26 v d p) (hw : (d.weights Tryz.prog 26).all (· ≤ reachBytes) = true) : ∃ o, IsOb w v o := by
 obtain ⟨v0, v1, v2, y0, y1, y2, n, rfl, rfl, _, h0, h1, h2⟩ := open_agg3 Tryz.underlying26 (by kernel_rfl) (by kernel_rfl) hv h
 simp only [DataW.weights, DataW.weightsEach, Tryz.underlying26, List.map_cons, List.map_nil] at hw
 obtain ⟨w0, hw⟩ := all_split hw
 obtain ⟨w1, hw⟩ := all_split hw
 obtain ⟨w2, hw⟩ := all_split hw
 obtain ⟨l0, k0⟩ := isDefs_of_trod h0 w0
 obtain ⟨l1, k1⟩ := isB_of_trod h1 w1
 obtain ⟨l2, k2⟩ := isRels_of_trod h2 w2
 exact ⟨⟨l0, l1, l2⟩, _, _, _, rfl, k0, k1, k2⟩
end
end Go.Proofs.YtiaddncjghkajaaGreatDoor


set_option linter.unusedVariables false
set_option linter.unnecessarySimpa false
set_option linter.unusedSimpArgs false
namespace Go.Proofs.YtiaddncjghkajaaGreatDoor
open Go.RowKit Go.Lib Go.ChangeShapes

theorem es_star : "*" ++ "errors.errorString" = "*errors.errorString" := by decide
theorem row_es (u : TypeId) (h : Tryz.prog.typeName? 3 u = some "*errors.errorString") : u = 288 :=
 typeName_ptr_named (nm := "errors.errorString") (by rw [es_star]; kernel_rfl) (by kernel_rfl) (by decide) u (by rw [es_star]; exact h)
theorem plainH : (Rows.objectChecksRow.laid.all fun x => x.2.handleName?.isNone) = true := by kernel_rfl
theorem own : ownKnob Tryz.prog.godebug = none := by kernel_rfl
theorem laidOut : laidOutB Tryz.prog = true := by kernel_rfl
theorem none_of_laid {W : World} (h : laidMet Tryz.prog Rows.objectChecksRow.laid W) : NoneV W := by
 obtain ⟨g, t, cs, fuel, p, h1, h2, h3, h4⟩ := Lib.laidMet.reads (n := "slotcode/prog.none") (d := Rows.laid_slotcode_prog_none) h (by simp [Rows.objectChecksRow])
 obtain rfl : g = 0 := by
  have : Tryz.prog.globalNamed "slotcode/prog.none" = some 0 := by kernel_rfl
  rw [this] at h1; exact (Option.some.inj h1).symm
 obtain rfl : t = 139 := by
  have : (Tryz.prog.globals[0]?).map (·.type) = some 139 := by kernel_rfl
  rw [this] at h2; exact (Option.some.inj h2).symm
 have e := Lib.ints_of_struct (k := .i64) (zs := [0, 0]) Tryz.underlying139 (by
  intro i f hf
  match i with
  | 0 => obtain rfl := Option.some.inj hf; exact ⟨by kernel_rfl, rfl, by kernel_rfl⟩
  | 1 => obtain rfl := Option.some.inj hf; exact ⟨by kernel_rfl, rfl, by kernel_rfl⟩
  | n + 2 => cases hf) (by kernel_rfl) h4
 have hk : cs = #[.int .i64 0, .int .i64 0] := by
  apply Array.ext'
  simpa using e
 subst hk
 exact ⟨World.var?_cell h1 h3 0, World.var?_cell h1 h3 1⟩
theorem props_of_laid {W : World} (h : laidMet Tryz.prog Rows.objectChecksRow.laid W) : Lib.TabIs Tryz.prog W "unicode.properties" .u8 Lib.propertiesTab := by
 have h6 := h.tail.tail.tail.tail.tail.tail
 have e : (Rows.laid_unicode_properties : DataW Unit) = Lib.tabData .u8 Lib.propertiesTab := by kernel_rfl
 rw [e] at h6
 exact Lib.tabIs_of_head (n := 256) (g := 5) (t := 270) (e := 5) (by kernel_rfl) (by kernel_rfl) (by kernel_rfl) (by kernel_rfl) (by kernel_rfl) (by kernel_rfl) h6
theorem glob_of_laid {W : World} (h : laidMet Tryz.prog Rows.objectChecksRow.laid W) : Glob W := by
 have h3 := h.tail.tail.tail
 have h4 := h3.tail
 refine ⟨props_of_laid h, ?_, ?_⟩
 ·obtain ⟨a, s, h1, _⟩ := laid_sentinel (g := 7) (ti := 250) (tp := 288) (te := 290) (ts := 9) h4
   (by kernel_rfl) (by kernel_rfl) Tryz.underlying250 row_es Tryz.underlying288 Tryz.underlying290 rfl rfl Tryz.underlying9 (by kernel_rfl) (by kernel_rfl)
  exact ⟨_, _, h1⟩
 ·obtain ⟨a, s, h1, _⟩ := laid_sentinel (g := 8) (ti := 250) (tp := 288) (te := 290) (ts := 9) h3
   (by kernel_rfl) (by kernel_rfl) Tryz.underlying250 row_es Tryz.underlying288 Tryz.underlying290 rfl rfl Tryz.underlying9 (by kernel_rfl) (by kernel_rfl)
  exact ⟨_, _, h1⟩
end Go.Proofs.YtiaddncjghkajaaGreatDoor


set_option linter.unusedVariables false
set_option linter.unusedSimpArgs false
namespace Go.Proofs.YtiaddncjghkajaaGreatDoor
open Go.RowKit Go.Lib Go.ChangeShapes

theorem wid_of_laid {W : World} (h : laidMet Tryz.prog Rows.objectChecksRow.laid W) : WidN W := by
 have h7 := h.tail.tail.tail.tail.tail.tail.tail
 have e : (Rows.laid_slotcode_num_widths : DataW Unit) = Lib.tabData .i64 [8, 16, 32, 64] := by rfl
 rw [e] at h7
 have t : Lib.TabIs Tryz.prog W "slotcode/num.widths" .i64 [8, 16, 32, 64] := Lib.tabIs_of_head (n := 4) (g := 1) (t := 227) (e := 3) (by kernel_rfl) (by kernel_rfl) (by kernel_rfl) (by kernel_rfl) (by kernel_rfl) (by kernel_rfl) h7
 have hg : Tryz.prog.globalNamed "slotcode/num.widths" = some 1 := by kernel_rfl
 exact ⟨World.var?_cell hg t 0, World.var?_cell hg t 1, World.var?_cell hg t 2, World.var?_cell hg t 3⟩
set_option maxRecDepth 100000 in
theorem ops_of_laid {W : World} (h : laidMet Tryz.prog Rows.objectChecksRow.laid W) : OpsN W := by
 obtain ⟨g, t, cs, fuel, p, h1, h2, h3, h4⟩ := Lib.laidMet.reads (n := "slotcode/ops.none") (d := Rows.laid_slotcode_ops_none) h (by simp [Rows.objectChecksRow])
 obtain rfl : g = 2 := by
  have : Tryz.prog.globalNamed "slotcode/ops.none" = some 2 := by kernel_rfl
  rw [this] at h1; exact (Option.some.inj h1).symm
 obtain rfl : t = 202 := by
  have : (Tryz.prog.globals[2]?).map (·.type) = some 202 := by kernel_rfl
  rw [this] at h2; exact (Option.some.inj h2).symm
 obtain ⟨xs, n', _, hx, hl, hxl, hf⟩ := DataW.trod_struct Tryz.underlying202 h4
 have k7 : Tryz.prog.cellsOf 202 = 7 := by kernel_rfl
 rw [k7] at hl
 obtain ⟨l⟩ := cs
 match l, hl with
 | [c0, c1, c2, c3, c4, c5, c6], _ =>
  match xs, hxl with
  | [y0, y1, y2, y3, y4, y5, y6], _ =>
   have k9 : Tryz.prog.cellsOf 9 = 1 := by kernel_rfl
   have k3 : Tryz.prog.cellsOf 3 = 1 := by kernel_rfl
   have k5 : Tryz.prog.cellsOf 5 = 1 := by kernel_rfl
   have e := congrArg Prod.fst hx
   simp only [Rows.laid_slotcode_ops_none, List.map_cons, List.map_nil, DataW.agg.injEq, List.cons.injEq, and_true] at e
   obtain ⟨q0, q1, q2, q3, q4, q5, q6⟩ := e
   obtain ⟨s, e0, f0, _⟩ := DataW.trod_string Tryz.underlying9 (hf 0 _ rfl)
   obtain ⟨z1, e1, f1, _⟩ := DataW.trod_int Tryz.underlying3 (hf 1 _ rfl)
   obtain ⟨z2, e2, f2, _⟩ := DataW.trod_int Tryz.underlying3 (hf 2 _ rfl)
   obtain ⟨z3, e3, f3, _⟩ := DataW.trod_int Tryz.underlying5 (hf 3 _ rfl)
   obtain ⟨z4, e4, f4, _⟩ := DataW.trod_int Tryz.underlying3 (hf 4 _ rfl)
   obtain ⟨z5, e5, f5, _⟩ := DataW.trod_int Tryz.underlying3 (hf 5 _ rfl)
   obtain ⟨z6, e6, f6, _⟩ := DataW.trod_int Tryz.underlying3 (hf 6 _ rfl)
   subst f0 f1 f2 f3 f4 f5 f6
   obtain rfl : c0 = .string s := by simpa [k9] using e0
   obtain rfl : c1 = .int .i64 z1 := by simpa [k3] using e1
   obtain rfl : c2 = .int .i64 z2 := by simpa [k3] using e2
   obtain rfl : c3 = .int .u8 z3 := by simpa [k5] using e3
   obtain rfl : c4 = .int .i64 z4 := by simpa [k3] using e4
   obtain rfl : c5 = .int .i64 z5 := by simpa [k3] using e5
   obtain rfl : c6 = .int .i64 z6 := by simpa [k3] using e6
   simp only [DataW.lit.injEq, Lit.int.injEq, Lit.string.injEq, true_and] at q0 q1 q2 q3 q4 q5 q6
   subst q1 q2 q3 q4 q5 q6
   have hs : s = ⟨#[]⟩ := by
    apply ByteArray.ext
    apply Array.ext'
    simpa using q0.symm
   subst hs
   exact ⟨World.var?_cell h1 h3 0, World.var?_cell h1 h3 1, World.var?_cell h1 h3 2, World.var?_cell h1 h3 3, World.var?_cell h1 h3 4, World.var?_cell h1 h3 5, World.var?_cell h1 h3 6⟩
end Go.Proofs.YtiaddncjghkajaaGreatDoor


set_option linter.unusedVariables false
namespace Go.Proofs.YtiaddncjghkajaaGreatDoor
set_option maxRecDepth 100000
theorem p_lay : laidOutB Tryz.pinned.checked.prog = true := by kernel_rfl
theorem p_mr : mapsRowed Tryz.pinned.checked.prog = true := by kernel_rfl
theorem p_pk : (Rows.objectChecksRow.plainKeys == Tryz.pinned.checked.prog.plainKeys) = true := by kernel_rfl
theorem p_sh : Tryz.pinned.checked.prog.stopsHeard = true := by kernel_rfl
theorem p_me : Tryz.pinned.checked.prog.mayEnter = true := by kernel_rfl
theorem p_lf : (Rows.objectChecksRow.lifted == Tryz.pinned.checked.prog.liftsFinal) = true := by kernel_rfl
theorem p_mk : (Tryz.pinned.checked.prog.make == some Rows.objectChecksRow.make) = true := by kernel_rfl
end Go.Proofs.YtiaddncjghkajaaGreatDoor
