/- The layer object: what is parsed is no greater than its bytes. -/
import Derived.Test.YtmofdnlefjfcfaaGreatDoorJObj
import Derived.Test.YtmofdnlefjfcfaaGreatDoorJChkV
import Derived.Test.YtmofdnlefjfcfaaGreatDoorJOPar
import Derived.Test.YtmofdnlefjfcfaaGreatDoorJTab
import Derived.Test.YtmofdnlefjfcfaaGreatDoorJEq
import Derived.Test.YtmofdnlefjfcfaaGreatDoorJTgtQ
import Derived.Test.YtmofdnlefjfcfaaGreatDoorJAAss
import Derived.Test.YtmofdnlefjfcfaaGreatDoorJJoinR
import Derived.Test.YtmofdnlefjfcfaaGreatDoorJAll
import Derived.Test.YtmofdnlefjfcfaaGreatDoorJResR
import Derived.Test.YtmofdnlefjfcfaaGreatDoorJAllR
set_option linter.unusedVariables false
set_option linter.unusedSimpArgs false
namespace Go.Proofs.YtmofdnlefjfcfaaGreatDoor
open Go.RowKit Go.Lib

theorem pack_big (o : Ob) : 16 * o.maps.length ≤ (packOf o).length ∧ 8 * o.rels.length ≤ (packOf o).length := by
 have h := boxOf_length (secsOf o)
 have e : (packOf o).length = (boxOf (secsOf o)).length := rfl
 rw [← e] at h
 unfold secSize secsOf at h
 simp only [List.map_cons, List.map_nil, List.sum_cons, List.sum_nil, List.length_cons, List.length_nil, b4_length, defN_length, symN_length, offsOf_length, relN_length, tabOf_length] at h
 unfold up at h
 omega
theorem pa_big (b : List Int) : 16 * (paOut b).maps.length ≤ b.length ∧ 8 * (paOut b).rels.length ≤ b.length := by
 by_cases h : paOk b
 ·obtain ⟨h1, h2, h3, h4, h5, h6, h7⟩ := id h
  have : paOut b = obOf (rdOut b) := by unfold paOut; rw [if_pos h]
  rw [this]
  have := pack_big (obOf (rdOut b))
  rwa [h7] at this
 ·have h2 : paOut b = obNil := by unfold paOut; rw [if_neg h]
  rw [h2]; simp [obNil]
end Go.Proofs.YtmofdnlefjfcfaaGreatDoor


set_option linter.unusedVariables false
set_option linter.unusedSimpArgs false
namespace Go.Proofs.YtmofdnlefjfcfaaGreatDoor
open Go.RowKit

set_option maxRecDepth 40000 in
set_option maxHeartbeats 4000000 in
theorem valid_Check_any (v : Value) (o : Ob) (w : World) (h : IsOb w v o) (hm : o.maps.length ≤ 100000) (hr : o.rels.length ≤ 1000000) (hG : Glob w) (hN : NoneV w) (hO : OpsN w) (hWd : WidN w) :
  Calls Tryz.prog 14 #[v] w fun e w' => e = .returned (.tuple #[.int .i64 (chk17 o).1, .int .i64 (chk17 o).2]) ∧ Ext w w' := by
 obtain ⟨A1, c1, A2, c2, A3, c3, rfl, h'⟩ := isOb_form h
 obtain ⟨W0, hW0⟩ : ∃ W0, W0 = w.alloc (.cells #[.slice A1 o.maps.length c1, .slice A2 o.code.length c2, .slice A3 o.rels.length c3] 31) := ⟨_, rfl⟩
 have e0 : Ext w W0 := by rw [hW0]; exact Ext.new _ _
 have hC := valid_check_any _ o W0 (h'.ext e0) hm hr (hG.ext e0) (hN.ext e0) (hO.ext e0) (hWd.ext e0)
 rw [hW0] at hC
 have HW0 := hx hW0
 have HC := hx hC
 clear hW0 hC h h' hG hN hO hWd
 generalize (chk17 o).1 = C1 at *
 generalize (chk17 o).2 = C2 at *
 go_enter Tryz.func14, Tryz.ntmps14
 go_wp2_with fail
 refine HC.out.mono ?_
 rintro e w1 ⟨p, rfl, -, e1⟩
 rw [← HW0.out] at e1
 go_wp2
 go_ret2
 exact ⟨rfl, e0.trans e1⟩
set_option maxRecDepth 40000 in
set_option maxHeartbeats 4000000 in
/-- The list of a valid object, or nothing. -/
def code17 (o : Ob) : List Ins := if (chk17 o).2 = 0 then allI o.code else []
theorem valid_Code_any (v : Value) (o : Ob) (w : World) (h : IsOb w v o) (hm : o.maps.length ≤ 100000) (hr : o.rels.length ≤ 1000000) (hG : Glob w) (hN : NoneV w) (hO : OpsN w) (hWd : WidN w) :
  Calls Tryz.prog 15 #[v] w fun e w' => ∃ v', e = .returned (.tuple #[v', .int .i64 (chk17 o).2]) ∧ IsIns w' v' (code17 o) ∧ Ext w w' := by
 obtain ⟨A1, c1, A2, c2, A3, c3, rfl, h'⟩ := isOb_form h
 obtain ⟨W0, hW0⟩ : ∃ W0, W0 = w.alloc (.cells #[.slice A1 o.maps.length c1, .slice A2 o.code.length c2, .slice A3 o.rels.length c3] 31) := ⟨_, rfl⟩
 have e0 : Ext w W0 := by rw [hW0]; exact Ext.new _ _
 have hC := valid_check_any _ o W0 (h'.ext e0) hm hr (hG.ext e0) (hN.ext e0) (hO.ext e0) (hWd.ext e0)
 rw [hW0] at hC
 have HW0 := hx hW0
 have HC := hx hC
 have HCD := hx (show code17 o = if (chk17 o).2 = 0 then allI o.code else [] from rfl)
 clear hW0 hC h h' hG hN hO hWd
 unfold ChkRes at HC
 generalize code17 o = CD at *
 generalize allI o.code = L at *
 generalize (chk17 o).1 = C1 at *
 generalize (chk17 o).2 = C2 at *
 by_cases hz : C2 = 0
 ·subst hz
  have HCE := hx (HCD.out.trans (if_pos rfl))
  clear HCD
  go_enter Tryz.func15, Tryz.ntmps15
  go_wp2_with fail
  refine HC.out.mono ?_
  rintro e w1 ⟨p, rfl, hp, e1⟩
  obtain ⟨cb, v0, v1, v2, A, c, As, cs, m, rfl, hP⟩ := hp trivial
  rw [← HW0.out] at e1
  have q3 := hP.1.cell (i := 3) rfl
  have HP := hx hP.2.1
  clear hP
  go_wp2
  go_ret2
  exact ⟨_, rfl, by rw [HCE.out]; exact HP.out, e0.trans e1⟩
 ·have hz' : (C2 != 0) = true := by simpa using hz
  have HCE := hx (HCD.out.trans (if_neg hz))
  clear hz HCD
  go_enter Tryz.func15, Tryz.ntmps15
  go_wp2_with fail
  refine HC.out.mono ?_
  rintro e w1 ⟨p, rfl, -, e1⟩
  rw [← HW0.out] at e1
  go_wp2
  go_ret2
  exact ⟨_, rfl, by rw [HCE.out]; exact Sl.nil _, e0.trans e1⟩
/-- The slot and the error of bytes. -/
def byt17 (b : List Int) : Int × Int := if paErr b = 0 then chk17 (paOut b) else (0, paErr b)
set_option maxRecDepth 40000 in
set_option maxHeartbeats 4000000 in
theorem valid_Bytes_any (v : Value) (b : List Int) (w : World) (hv : IsB w v b) (hb : b.length ≤ 1000000) (hG : Glob w) (hN : NoneV w) (hO : OpsN w) (hWd : WidN w) :
  Calls Tryz.prog 40 #[v] w fun e w' => e = .returned (.tuple #[.int .i64 (byt17 b).1, .int .i64 (byt17 b).2]) ∧ Ext w w' := by
 obtain ⟨A, c, rfl, -, -, hv'⟩ := hv.form
 have hbig := pa_big b
 have HP := hx (object_Parse_any _ b w hv' hb hG hN)
 have HCK := hx fun (W : World) (hW : Ext w W) (v : Value) (ho : IsOb W v (paOut b)) => valid_Check_any v (paOut b) W ho (by omega) (by omega) (hG.ext hW) (hN.ext hW) (hO.ext hW) (hWd.ext hW)
 have HBY := hx (show byt17 b = if paErr b = 0 then chk17 (paOut b) else (0, paErr b) from rfl)
 generalize byt17 b = BY at *
 generalize paErr b = PE at *
 generalize paOut b = O at *
 clear hbig hv hv' hG hN hO hWd
 by_cases hz : PE = 0
 ·subst hz
  have HBE := hx (HBY.out.trans (if_pos rfl))
  clear HBY
  go_enter Tryz.func40, Tryz.ntmps40
  go_wp2_with fail
  refine HP.out.mono ?_
  rintro e w1 ⟨v1, rfl, i1, e1⟩
  obtain ⟨A1, c1, A2, c2, A3, c3, rfl, i1'⟩ := isOb_form i1
  have i2 := i1'.ext (Ext.new w1 (.cells #[.slice A1 O.maps.length c1, .slice A2 O.code.length c2, .slice A3 O.rels.length c3] 31))
  have x2 := e1.trans (Ext.new w1 (.cells #[.slice A1 O.maps.length c1, .slice A2 O.code.length c2, .slice A3 O.rels.length c3] 31))
  have HQ := hx (HCK.out _ x2 _ i2)
  have X2 := hx x2
  clear i1 i1' i2 x2 HCK
  generalize O.maps.length = m1 at *
  generalize O.code.length = m2 at *
  generalize O.rels.length = m3 at *
  go_wp2_with fail
  refine HQ.out.mono ?_
  rintro e w2 ⟨rfl, e2⟩
  go_wp2
  go_ret2
  exact ⟨by rw [HBE.out]; rfl, X2.out.trans e2⟩
 ·have hz' : (PE != 0) = true := by simpa using hz
  have HBE := hx (HBY.out.trans (if_neg hz))
  clear hz HBY HCK
  go_enter Tryz.func40, Tryz.ntmps40
  go_wp2_with fail
  refine HP.out.mono ?_
  rintro e w1 ⟨v1, rfl, i1, e1⟩
  obtain ⟨A1, c1, A2, c2, A3, c3, rfl, i1'⟩ := isOb_form i1
  clear i1 i1'
  generalize O.maps.length = m1 at *
  generalize O.code.length = m2 at *
  generalize O.rels.length = m3 at *
  go_wp2
  go_ret2
  exact ⟨by rw [HBE.out]; rfl, e1.trans (Ext.new _ _)⟩
end Go.Proofs.YtmofdnlefjfcfaaGreatDoor


set_option linter.unusedVariables false
set_option linter.unusedSimpArgs false
namespace Go.Proofs.YtmofdnlefjfcfaaGreatDoor
open Go.RowKit

set_option maxRecDepth 20000 in
set_option maxHeartbeats 800000 in
theorem equalI_any (va vb : Value) (a b : List Int) (w : World) (ha : IsInts w va a) (hb : IsInts w vb b) :
  Calls Tryz.prog 41 #[va, vb] w fun e w' => e = .returned (.bool (decide (a = b))) ∧ Ext w w' := by
 obtain ⟨A, c, rfl, hc, hl, ha'⟩ := ha.form
 obtain ⟨B, d, rfl, hd, hm, hb'⟩ := hb.form
 by_cases hln : a.length = b.length
 ·have hb1 : ((a.length : Int) != (b.length : Int)) = false := by simp; omega
  have HLN := hx hln
  have hlb : b.length ≤ a.length := by omega
  clear hln
  go_enter Tryz.func41, Tryz.ntmps41
  go_wp2
  go_loopw [13] (fun i wr => ∃ (pre s1 s2 : List Int), a = pre ++ s1 ∧ b = pre ++ s2 ∧ i = .int .i64 (pre.length : Nat) ∧ Ext w wr) (fun i _ => a.length - (RowKit.intOf i).toNat)
  case atStart => exact ⟨[], a, b, rfl, rfl, rfl, Ext.refl _⟩
  case round =>
   obtain ⟨pre, s1, s2, h1, h2, rfl, he⟩ := hrel
   have hs := eq_split h1 h2 HLN.out
   cases s1 with
   | cons x s1 =>
    cases s2 with
    | nil => simp at hs
    | cons y s2 =>
     have hlt : pre.length < a.length := by rw [h1]; simp
     have hlt2 : pre.length < b.length := by rw [h2]; simp
     have hvx := ha'
     rw [h1] at hvx
     obtain ⟨bb, o, rfl, d1⟩ := hvx.at
     have hvy := hb'
     rw [h2] at hvy
     obtain ⟨bc, q, rfl, d2⟩ := hvy.at
     replace d1 := he.cell d1.1
     replace d2 := he.cell d2.1
     rw [Nat.mul_one] at d1 d2
     have H1 := hx h1
     have H2 := hx h2
     clear h1 h2 hs hvx hvy
     have i0 : (0 : Int) ≤ (pre.length : Int) := by omega
     have i1 : (pre.length : Int) < (a.length : Int) := by omega
     have i2 : (pre.length : Int) < (b.length : Int) := by omega
     by_cases hxy : x = y
     ·subst hxy
      go_wp2
      go_quiet (fail)
      go_wp2
      go_roundw
      case rel => exact ⟨pre ++ [x], s1, s2, by simp [H1.out], by simp [H2.out], by simp, he.drewN _⟩
      case measure => simp [RowKit.intOf]; omega
     ·have b2 : (x != y) = true := by simpa using hxy
      have hne : Hx (decide (a = b) = false) := ⟨by simp [H1.out, H2.out, hxy]⟩
      have hxy' := hx hxy
      clear hxy
      go_wp2
      go_quiet (fail)
      go_wp2
      go_ret
      exact ⟨ret_bool hne.out.symm, he.drewN _⟩
   | nil =>
    obtain rfl : a = pre := by simpa using h1
    obtain rfl : s2 = [] := by simpa using hs.symm
    have heq : Hx (decide (a = b) = true) := ⟨by simp [h2]⟩
    clear h1 h2
    have hlt : ¬ a.length < a.length := by omega
    go_wp2
    go_ret
    exact ⟨ret_bool heq.out.symm, he⟩
 ·have hb1 : ((a.length : Int) != (b.length : Int)) = true := by simp; omega
  have hne : Hx (decide (a = b) = false) := ⟨by simp; intro e; exact hln (by rw [e])⟩
  go_enter Tryz.func41, Tryz.ntmps41
  go_wp2
  go_ret
  exact ⟨ret_bool hne.out.symm, Ext.refl _⟩

end Go.Proofs.YtmofdnlefjfcfaaGreatDoor


set_option linter.unusedVariables false
set_option linter.unusedSimpArgs false
namespace Go.Proofs.YtmofdnlefjfcfaaGreatDoor
open Go.RowKit Go.Lib

theorem isIns3 {W : World} {g : Nat} {x y z : Ins} (hr : RowV W g 53 (x.enc ++ (y.enc ++ z.enc))) (h1 : x.Ok) (h2 : y.Ok) (h3 : z.Ok) : IsIns W (.slice (some ⟨g, 0, none⟩) 3 3) [x, y, z] := by
 refine ⟨some ⟨g, 0, none⟩, 3, rfl, ⟨Nat.le_refl 3, (by decide)⟩, (by simp), (fun e => by cases e), fun i u hu => ⟨g, 0, rfl, ?_⟩⟩
 match i, hu with
 | 0, hu => obtain rfl := Option.some.inj hu; exact ⟨⟨hr.cell (i := 0) rfl, hr.cell (i := 1) rfl, hr.cell (i := 2) rfl, hr.cell (i := 3) rfl, hr.cell (i := 4) rfl, hr.cell (i := 5) rfl⟩, h1⟩
 | 1, hu => obtain rfl := Option.some.inj hu; exact ⟨⟨hr.cell (i := 6) rfl, hr.cell (i := 7) rfl, hr.cell (i := 8) rfl, hr.cell (i := 9) rfl, hr.cell (i := 10) rfl, hr.cell (i := 11) rfl⟩, h2⟩
 | 2, hu => obtain rfl := Option.some.inj hu; exact ⟨⟨hr.cell (i := 12) rfl, hr.cell (i := 13) rfl, hr.cell (i := 14) rfl, hr.cell (i := 15) rfl, hr.cell (i := 16) rfl, hr.cell (i := 17) rfl⟩, h3⟩
 | n + 3, hu => simp at hu
theorem isInts3 {W : World} {g : Nat} {x y z : Int} (hr : RowV W g 3 [.int .i64 x, .int .i64 y, .int .i64 z]) (h1 : I64 x) (h2 : I64 y) (h3 : I64 z) : IsInts W (.slice (some ⟨g, 0, none⟩) 3 3) [x, y, z] := by
 refine ⟨some ⟨g, 0, none⟩, 3, rfl, ⟨Nat.le_refl 3, (by decide)⟩, (by simp), (fun e => by cases e), fun i u hu => ⟨g, 0, rfl, ?_⟩⟩
 match i, hu with
 | 0, hu => obtain rfl := Option.some.inj hu; exact ⟨hr.cell (i := 0) rfl, h1⟩
 | 1, hu => obtain rfl := Option.some.inj hu; exact ⟨hr.cell (i := 1) rfl, h2⟩
 | 2, hu => obtain rfl := Option.some.inj hu; exact ⟨hr.cell (i := 2) rfl, h3⟩
 | n + 3, hu => simp at hu
theorem isB_set {W : World} {g : Nat} {t : TypeId} {l : List Value} {v : Value} {L : List Int} (h : IsB W v L) (r : RowV W g t l) (i : Nat) (hl : ∀ x, l[i]? ≠ some (.int .u8 x)) (u : Value) : IsB (W.setCell ⟨g, i, none⟩ u) v L :=
 Sl.ext h fun b o x k => ⟨by
  by_cases hb : b = g
  ·subst hb
   have k1 := k.1
   have h1 : l[o]? = some (.int .u8 x) := by
    simp only [World.cell?, show W.heap[b]? = _ from r] at k1
    simpa using k1
   have hne : i ≠ o := fun e => by subst e; exact hl x h1
   exact (r.set i u).cell (by rw [List.getElem?_set_ne hne]; exact h1)
  ·have k1 := k.1
   simp only [World.cell?, World.setCell, Array.getElem?_modify, if_neg (fun e : g = b => hb e.symm)] at k1 ⊢
   exact k1, k.2⟩
theorem rowO_set {W : World} {g G : Nat} {v1 v2 v3 : Value} (h : RowO W G v1 v2 v3) (hne : g ≠ G) (i : Nat) (u : Value) : RowO (W.setCell ⟨g, i, none⟩ u) G v1 v2 v3 := by
 unfold RowO at *
 simp only [World.setCell, Array.getElem?_modify, if_neg hne]
 exact h
theorem joinX_small (L : List Ins) (c : List Int) (hc : L.flatMap encX = c) (hl : c.length = 32) (hb : Byt c) (hL : L.length ≤ 1000) (hE : ∀ x ∈ L, EncSm x) (v : Value) (W : World) (hv : IsIns W v L) :
  Calls Tryz.prog 19 #[v] W fun e w' => ∃ A c', e = .returned (.slice A 32 c') ∧ IsB w' (.slice A 32 c') c ∧ Ext W w' :=
 (refJoinX_any v L W hv hL hE).mono fun e w' ⟨v', h1, h2, h3⟩ => by
  rw [hc] at h2
  obtain ⟨A, c', rfl, -, -, h4⟩ := (h2.read (fun x hx => hb x hx) (by rw [hl]; decide) : IsB w' v' c).form
  rw [hl] at h1 h4
  exact ⟨A, c', h1, h4, h3⟩
theorem byt17A : Byt c17A := by rw [c17A_eq]; intro x hx; simp at hx; omega
theorem byt17B : Byt c17B := by rw [c17B_eq]; intro x hx; simp at hx; omega
theorem code17A : code17 o17A = l17A := by unfold code17; rw [chk17A, if_pos rfl]; exact allI17A
theorem byt17_nil : byt17 [] = (0, 19) := by
 unfold byt17 paErr
 rw [if_neg nil_pa, if_neg (by decide)]
set_option maxRecDepth 40000 in
set_option maxHeartbeats 8000000 in
theorem alive17_any (w : World) (hG : Glob w) (hN : NoneV w) (hO : OpsN w) (hWd : WidN w) : Calls Tryz.prog 13 #[] w fun e w' => e = .returned (.bool true) ∧ Ext w w' := by
 have CJA := hx fun (v : Value) (W : World) (hv : IsIns W v l17A) => joinX_small l17A c17A rfl (by rw [c17A_eq]; rfl) byt17A (by decide) sm17A v W hv
 have CJB := hx fun (v : Value) (W : World) (hv : IsIns W v l17B) => joinX_small l17B c17B rfl (by rw [c17B_eq]; rfl) byt17B (by decide) sm17B v W hv
 have CKA := hx fun (W : World) (hW : Ext w W) (v : Value) (ho : IsOb W v o17A) => (valid_Check_any v o17A W ho (by decide) (by decide) (hG.ext hW) (hN.ext hW) (hO.ext hW) (hWd.ext hW)).mono (R' := fun e w' => e = .returned (.tuple #[.int .i64 0, .int .i64 0]) ∧ Ext W w') fun e w' ⟨h1, h2⟩ => ⟨by rw [h1, chk17A], h2⟩
 have CKB := hx fun (W : World) (hW : Ext w W) (v : Value) (ho : IsOb W v o17B) => (valid_Check_any v o17B W ho (by decide) (by decide) (hG.ext hW) (hN.ext hW) (hO.ext hW) (hWd.ext hW)).mono (R' := fun e w' => e = .returned (.tuple #[.int .i64 0, .int .i64 13]) ∧ Ext W w') fun e w' ⟨h1, h2⟩ => ⟨by rw [h1, chk17B], h2⟩
 have CCD := hx fun (W : World) (hW : Ext w W) (v : Value) (ho : IsOb W v o17A) => (valid_Code_any v o17A W ho (by decide) (by decide) (hG.ext hW) (hN.ext hW) (hO.ext hW) (hWd.ext hW)).mono (R' := fun e w' => ∃ A c, e = .returned (.tuple #[.slice A 3 c, .int .i64 0]) ∧ IsIns w' (.slice A 3 c) l17A ∧ Ext W w') fun e w' ⟨v', h1, h2, h3⟩ => by
  rw [code17A] at h2
  obtain ⟨A, c, rfl, -, -, h4⟩ := h2.form
  exact ⟨A, c, by rw [h1, chk17A]; rfl, h4, h3⟩
 have CTG := hx fun (W : World) (hW : Ext w W) (v : Value) (hv : IsIns W v l17A) => (Targets_any v l17A W hv (by decide) off17A (hO.ext hW)).mono (R' := fun e w' => ∃ A c, e = .returned (.tuple #[.slice A 3 c, .int .i64 (-1)]) ∧ IsInts w' (.slice A 3 c) [1, -1, -1] ∧ Ext W w') fun e w' ⟨v', h1, h2, h3⟩ => by
  rw [tgt17A] at h2
  obtain ⟨A, c, rfl, -, -, h4⟩ := h2.form
  exact ⟨A, c, by rw [h1, bad17A]; rfl, h4, h3⟩
 have CBY := hx fun (W : World) (hW : Ext w W) => (valid_Bytes_any (.slice none 0 0) [] W (Sl.nil _) (by decide) (hG.ext hW) (hN.ext hW) (hO.ext hW) (hWd.ext hW)).mono (R' := fun e w' => e = .returned (.tuple #[.int .i64 0, .int .i64 19]) ∧ Ext W w') fun e w' ⟨h1, h2⟩ => ⟨by rw [h1, byt17_nil], h2⟩
 have CEQ := hx fun (va vb : Value) (W : World) (ha : IsInts W va [1, -1, -1]) (hb : IsInts W vb [1, -1, -1]) => (equalI_any va vb _ _ W ha hb).mono (R' := fun e w' => e = .returned (.bool true) ∧ Ext W w') fun e w' h => by simpa using h
 clear hG hN hO hWd
 have okA : ∀ x ∈ l17A, x.Ok := fun x hx => (sm17A x hx).ok
 have okB : ∀ x ∈ l17B, x.Ok := fun x hx => (sm17B x hx).ok
 obtain ⟨W1, hW1⟩ : ∃ W1, W1 = w.alloc (.cells #[.int .i64 44, .bool false, .int .i64 0, .int .i64 0, .int .i64 0, .int .i64 0, .int .i64 84, .bool false, .int .i64 0, .int .i64 0, .int .i64 0, .int .i64 5, .int .i64 68, .bool false, .int .i64 0, .int .i64 0, .int .i64 0, .int .i64 0] 53) := ⟨_, rfl⟩
 have x1 : Ext w W1 := by rw [hW1]; exact Ext.new _ _
 have r1 : RowV W1 w.heap.size 53 ((⟨44, false, 0, 0, 0, 0⟩ : Ins).enc ++ ((⟨84, false, 0, 0, 0, 5⟩ : Ins).enc ++ (⟨68, false, 0, 0, 0, 0⟩ : Ins).enc)) := by rw [hW1]; exact RowV.new _ _ _
 have i1 : IsIns W1 (.slice (some ⟨w.heap.size, 0, none⟩) 3 3) l17A := isIns3 r1 (okA _ (by simp [l17A])) (okA _ (by simp [l17A])) (okA _ (by simp [l17A]))
 have hJ := CJA.out _ _ i1
 rw [hW1] at hJ
 have HJ := hx hJ
 have HW1 := hx hW1
 clear hJ hW1 CJA i1
 go_enter Tryz.func13, Tryz.ntmps13
 go_wp2_with fail
 refine HJ.out.mono ?_
 rintro e w2 ⟨A, c, rfl, i2, x2⟩
 rw [← HW1.out] at x2
 clear HJ HW1
 obtain ⟨W3, hW3⟩ : ∃ W3, W3 = w2.alloc (.cells #[.slice none 0 0, .slice A 32 c, .slice none 0 0] 31) := ⟨_, rfl⟩
 have x3 : Ext w2 W3 := by rw [hW3]; exact Ext.new _ _
 have o3 : RowO W3 w2.heap.size (.slice none 0 0) (.slice A 32 c) (.slice none 0 0) := by rw [hW3]; exact rowO_new _ _ _ _
 have r3 := r1.ext (x2.trans x3)
 have hlt : w.heap.size ≠ w2.heap.size := by have := r1.lt; have := x2.size; omega
 have p3 := r3.frozen 4
 have p4 := r3.cell (i := 4) rfl
 have o4 := rowO_set o3 hlt 4 (.int .i64 1)
 have b4 := isB_set (IsB.ext i2 x3) r3 4 (by intro x; simp [Ins.enc]) (.int .i64 1)
 have r4 := r3.set 4 (.int .i64 1)
 have x4 : Ext w (W3.setCell ⟨w.heap.size, 4, none⟩ (.int .i64 1)) := (x1.trans (x2.trans x3)).setCell (a := ⟨w.heap.size, 4, none⟩) _ (Nat.le_refl _)
 have i4 : IsIns (W3.setCell ⟨w.heap.size, 4, none⟩ (.int .i64 1)) (.slice (some ⟨w.heap.size, 0, none⟩) 3 3) l17B := isIns3 (x := ⟨44, false, 0, 0, 1, 0⟩) (y := ⟨84, false, 0, 0, 0, 5⟩) (z := ⟨68, false, 0, 0, 0, 0⟩) r4 (okB _ (by simp [l17B])) (okB _ (by simp [l17B])) (okB _ (by simp [l17B]))
 have hJ := CJB.out _ _ i4
 generalize hg2 : w2.heap.size = g2 at *
 have HJ := hx hJ
 rw [hW3] at p3 p4
 have HW3 := hx hW3
 have B4 := hx b4
 have X4 := hx x4
 have O4 := hx o4
 clear hJ hW3 CJB i4 r4 r3 o3 x3 r1 x1 x2 i2 b4 x4 o4 hlt
 go_wp2_with fail
 rw [← HW3.out]
 refine HJ.out.mono ?_
 rintro e w5 ⟨A5, c5, rfl, i5, x5⟩
 clear p3 p4 HW3 HJ
 obtain ⟨W6, hW6⟩ : ∃ W6, W6 = w5.alloc (.cells #[.slice none 0 0, .slice A5 32 c5, .slice none 0 0] 31) := ⟨_, rfl⟩
 have x6 : Ext w5 W6 := by rw [hW6]; exact Ext.new _ _
 have o6 : RowO W6 w5.heap.size (.slice none 0 0) (.slice A5 32 c5) (.slice none 0 0) := by rw [hW6]; exact rowO_new _ _ _ _
 have i6 := IsB.ext i5 x6
 have s6 := O4.out.ext (x5.trans x6)
 have j6 := IsB.ext B4.out (x5.trans x6)
 have E6 := X4.out.trans (x5.trans x6)
 have obA : IsOb W6 (.agg #[.slice none 0 0, .slice A 32 c, .slice none 0 0]) o17A := ⟨_, _, _, rfl, Sl.nil _, j6, Sl.nil _⟩
 have obB : IsOb W6 (.agg #[.slice none 0 0, .slice A5 32 c5, .slice none 0 0]) o17B := ⟨_, _, _, rfl, Sl.nil _, i6, Sl.nil _⟩
 have k0 := s6.c0
 have k1 := s6.c1
 have k2 := s6.c2
 have hK := CKA.out W6 E6 _ obA
 rw [hW6] at k0 k1 k2
 have HK := hx hK
 have HW6 := hx hW6
 have OBA := hx obA
 have OBB := hx obB
 have S6 := hx s6
 have O6 := hx o6
 have EE6 := hx E6
 clear hK hW6 CKA obA obB s6 o6 E6 x5 x6 i5 i6 j6
 go_wp2_with fail
 rw [← HW6.out]
 refine HK.out.mono ?_
 rintro e w7 ⟨rfl, x7⟩
 clear k0 k1 k2 HK HW6
 have t7 := O6.out.ext x7
 have k0 := t7.c0
 have k1 := t7.c1
 have k2 := t7.c2
 clear t7
 go_wp2_with fail
 refine (CKB.out w7 (EE6.out.trans x7) _ (OBB.out.ext x7)).mono ?_
 rintro e w8 ⟨rfl, x8⟩
 clear k0 k1 k2
 have t8 := S6.out.ext (x7.trans x8)
 have k0 := t8.c0
 have k1 := t8.c1
 have k2 := t8.c2
 clear t8
 go_wp2_with fail
 refine (CCD.out w8 (EE6.out.trans (x7.trans x8)) _ (OBA.out.ext (x7.trans x8))).mono ?_
 rintro e w9 ⟨A9, c9, rfl, i9, x9⟩
 clear k0 k1 k2
 have E9 := EE6.out.trans (x7.trans (x8.trans x9))
 go_wp2_with fail
 refine (CTG.out w9 E9 _ i9).mono ?_
 rintro e w10 ⟨A10, c10, rfl, i10, x10⟩
 go_wp2_with fail
 refine (CBY.out w10 (E9.trans x10)).mono ?_
 rintro e w11 ⟨rfl, x11⟩
 have y1 := Ext.new w11 (.cells #[.int .i64 1, .int .i64 (-1), .int .i64 (-1)] 3)
 have r11 := RowV.new w11 [.int .i64 1, .int .i64 (-1), .int .i64 (-1)] 3
 have hQ := CEQ.out _ _ _ (IsInts.ext i10 (x11.trans y1)) (isInts3 r11 (i64s _ (by decide)) (i64s _ (by decide)) (i64s _ (by decide)))
 have HQ := hx hQ
 have E11 := hx (E9.trans (x10.trans (x11.trans y1)))
 clear hQ r11 y1 i10 i9 x7 x8 x9 x10 x11 E9
 go_wp2_with fail
 refine HQ.out.mono ?_
 rintro e w12 ⟨rfl, x12⟩
 go_wp2
 go_ret
 exact ⟨rfl, E11.out.trans x12⟩
end Go.Proofs.YtmofdnlefjfcfaaGreatDoor


set_option linter.unusedVariables false
set_option linter.unusedSimpArgs false
namespace Go.Proofs.YtmofdnlefjfcfaaGreatDoor
open Go.RowKit Go.Lib

def isOffR (r : OpRow) : Bool := decide (r.form = 0 ∨ r.form = 2)
def is10R (r : OpRow) : Bool := decide (r.form = 10 ∨ r.form = 11)
def distR (a b : OpRow) : Bool :=
 (isOffR a && isOffR b && a.off != b.off) || (!isOffR a && !isOffR b && a.imm != 0 && b.imm != 0 && a.imm != b.imm) || (!isOffR a && !isOffR b && a.imm == 0 && b.imm == 0 && is10R a && is10R b && a.src != b.src)
def codeR (r : OpRow) (reg : Bool) : Int × Bool := if reg = false then (r.code, true) else if r.form = 0 ∨ r.form = 4 then (r.code + 8, true) else (0, false)
def apartR (a b : OpRow) : Bool := [false, true].all fun ra => [false, true].all fun rb => !((codeR a ra).2 && (codeR b rb).2 && (codeR a ra).1 == (codeR b rb).1) || distR a b
set_option maxRecDepth 100000 in
theorem rows_apart : opRows.Pairwise fun a b => apartR a b = true := by decide +kernel
set_option maxRecDepth 100000 in
theorem rows_len : opRows.length = 86 := by decide +kernel
set_option maxRecDepth 100000 in
theorem rows_form : ∀ k : Fin 86, formN (k.val : Nat) ≠ -1 ∧ (slotsN (k.val : Nat) = 2 → formN (k.val : Nat) = 10 ∨ formN (k.val : Nat) = 11) ∧ ((formN (k.val : Nat) = 10 ∨ formN (k.val : Nat) = 11) → fixN (k.val : Nat) = ((rowOf (k.val : Nat)).src, 0, 0)) := by decide +kernel
theorem op_in {n : Int} (h : formN n ≠ -1) : ∃ k : Nat, k < 86 ∧ n = k := by
 by_cases hr : 0 ≤ n ∧ n < 86
 ·exact ⟨n.toNat, by omega, by omega⟩
 ·exact absurd (by unfold formN rowOf; rw [if_neg hr]; rfl) h
theorem rowOf_nat {k : Nat} (h : k < 86) : rowOf k = opRows[k]'(by rw [rows_len]; exact h) := by
 unfold rowOf
 rw [if_pos (by omega), Int.toNat_natCast, List.getD_eq_getElem?_getD, List.getElem?_eq_getElem (by rw [rows_len]; exact h)]
 rfl
theorem apart_at {j k : Nat} (hj : j < k) (hk : k < 86) : apartR (rowOf j) (rowOf k) = true := by
 rw [rowOf_nat (by omega), rowOf_nat hk]
 exact List.pairwise_iff_getElem.1 rows_apart j k _ _ hj
theorem codeN_R {k : Nat} (h : k < 86) (reg : Bool) : codeN k reg = codeR (rowOf k) reg := by
 unfold codeN codeR
 rw [if_neg (rows_form ⟨k, h⟩).1]
 rfl
/-- The fields that the row of an operation fixes. -/
structure FldR (r : OpRow) (s o i : Int) : Prop where
 off : isOffR r = true → o = r.off
 imm : isOffR r = false → r.imm ≠ 0 → i = r.imm
 src : isOffR r = false → r.imm = 0 → is10R r = true → s = r.src
theorem matches_own {r : OpRow} {s o i : Int} (h : FldR r s o i) : matchesN r s o i = true := by
 unfold matchesN
 by_cases h1 : r.form = 0 ∨ r.form = 2
 ·rw [if_pos h1, h.off (by unfold isOffR; exact decide_eq_true h1)]; simp
 ·have hf : isOffR r = false := by unfold isOffR; exact decide_eq_false h1
  rw [if_neg h1]
  by_cases h2 : r.imm ≠ 0
  ·rw [if_pos h2, h.imm hf h2]; simp
  ·rw [if_neg h2]
   by_cases h3 : r.form = 10 ∨ r.form = 11
   ·rw [if_pos h3, h.src hf (by omega) (by unfold is10R; exact decide_eq_true h3)]; simp
   ·rw [if_neg h3]
theorem matches_not {a r : OpRow} {s o i : Int} (h : FldR r s o i) (hd : distR a r = true) : matchesN a s o i = false := by
 unfold distR at hd
 simp only [Bool.or_eq_true, Bool.and_eq_true, Bool.not_eq_true', bne_iff_ne, ne_eq, beq_iff_eq] at hd
 rcases hd with (⟨⟨h1, h2⟩, h3⟩ | ⟨⟨⟨⟨h1, h2⟩, h3⟩, h4⟩, h5⟩) | ⟨⟨⟨⟨⟨⟨h1, h2⟩, h3⟩, h4⟩, h5⟩, h6⟩, h7⟩
 ·have e := h.off h2
  have h1' : a.form = 0 ∨ a.form = 2 := by unfold isOffR at h1; exact of_decide_eq_true h1
  unfold matchesN
  rw [if_pos h1', e]
  exact beq_eq_false_iff_ne.2 h3
 ·have e := h.imm h2 h4
  have h1' : ¬ (a.form = 0 ∨ a.form = 2) := by unfold isOffR at h1; exact of_decide_eq_false h1
  unfold matchesN
  rw [if_neg h1', if_pos h3, e]
  exact beq_eq_false_iff_ne.2 h5
 ·have e := h.src h2 h4 h6
  have h1' : ¬ (a.form = 0 ∨ a.form = 2) := by unfold isOffR at h1; exact of_decide_eq_false h1
  have h5' : a.form = 10 ∨ a.form = 11 := by unfold is10R at h5; exact of_decide_eq_true h5
  unfold matchesN
  rw [if_neg h1', if_neg (by simp [h3]), if_pos h5', e]
  exact beq_eq_false_iff_ne.2 h7
theorem idR_enc {k : Nat} (hk : k < 86) {reg : Bool} (hr : (codeR (rowOf k) reg).2 = true) {s o i : Int} (hf : FldR (rowOf k) s o i) : idR (codeN k reg).1 s o i = ((k : Int), reg, true) := by
 have hn : ∀ j, j < k → idAt (codeN k reg).1 s o i j = none := by
  intro j hj
  have ha := apart_at hj hk
  unfold apartR at ha
  simp only [List.all_cons, List.all_nil, Bool.and_true, Bool.and_eq_true, Bool.or_eq_true, Bool.not_eq_true'] at ha
  unfold idAt
  cases hm : matchesN (rowOf j) s o i with
  | false => rfl
  | true =>
   have hd : ¬ distR (rowOf j) (rowOf k) = true := fun hd => by rw [matches_not hf hd] at hm; cases hm
   rw [if_pos rfl, codeN_R (by omega) false, codeN_R (by omega) true, codeN_R hk reg]
   have hall : ∀ ra, ((codeR (rowOf j) ra).2 && (codeR (rowOf k) reg).2 && (codeR (rowOf j) ra).1 == (codeR (rowOf k) reg).1) = false := by
    intro ra
    cases ra <;> cases reg <;> first
     | exact ha.1.1.resolve_right hd
     | exact ha.1.2.resolve_right hd
     | exact ha.2.1.resolve_right hd
     | exact ha.2.2.resolve_right hd
   have h0 := hall false
   have h1 := hall true
   rw [hr, Bool.and_true] at h0 h1
   rw [if_neg (fun e => by rw [e] at h0; simp [codeR] at h0), if_neg (fun e => by rw [e.1, e.2] at h1; simp at h1)]
 have hy : idAt (codeN k reg).1 s o i k = some ((k : Int), reg) := by
  unfold idAt
  rw [matches_own hf, if_pos rfl, codeN_R hk false, codeN_R hk true, codeN_R hk reg]
  cases reg with
  | false => rw [if_pos rfl]
  | true =>
   have h2 : (rowOf k).form = 0 ∨ (rowOf k).form = 4 := by
    unfold codeR at hr
    rw [if_neg (by decide)] at hr
    split at hr
    ·assumption
    ·cases hr
   have h3 : codeR (rowOf k) true = ((rowOf k).code + 8, true) := by unfold codeR; rw [if_neg (by decide), if_pos h2]
   rw [h3, if_neg (by show ¬ (rowOf k).code = _; omega), if_pos ⟨rfl, rfl⟩]
 unfold idR
 rw [range_first _ 86 k _ hk hn hy]

/-! ### the fields of an encoding -/
theorem subL_at {b A B C : List Int} {i m : Nat} (h : b = A ++ (B ++ C)) (hi : i = A.length) (hm : m = B.length) : subL b i m = B := by
 subst h hi hm
 unfold subL
 rw [List.drop_left, List.take_left]
theorem sext_back16 {y : Int} (h0 : -32768 ≤ y) (h1 : y ≤ 32767) : sext 16 (lval (le 2 y)) = y := by
 rw [lval_le_mod, show (256 : Int) ^ 2 = 65536 from rfl]
 unfold sext
 simp only [Nat.reduceSub, Int.reducePow]
 split <;> omega
theorem sext_back32 {y : Int} (h0 : -2147483648 ≤ y) (h1 : y ≤ 2147483647) : sext 32 (lval (le 4 y)) = y := by
 rw [lval_le_mod, show (256 : Int) ^ 4 = 4294967296 from rfl]
 unfold sext
 simp only [Nat.reduceSub, Int.reducePow]
 split <;> omega
theorem wide_back {y : Int} (h : I64 y) : wrap64 (lval (le 4 (y / 4294967296)) * 4294967296 + lval (le 4 y)) = y := by
 obtain ⟨h0, h1⟩ := h
 rw [lval_le_mod, lval_le_mod, show (256 : Int) ^ 4 = 4294967296 from rfl]
 unfold wrap64
 omega
/-- The bytes of an encoding, part by part. -/
theorem enc_form (x : Ins) (t : List Int) : ∃ R : List Int, encX9 x ++ t = (codeN x.op x.reg).1 :: ((16 * ((fixN x.op).1 + x.src) + x.dst) % 256) :: (le 2 ((fixN x.op).2.1 + x.off) ++ (le 4 ((fixN x.op).2.2 + x.imm) ++ R)) ∧ (slotsN x.op = 2 → R = le 4 0 ++ (le 4 (x.imm / 4294967296) ++ t)) := by
 unfold encX9
 split
 ·exact ⟨le 4 0 ++ (le 4 (x.imm / 4294967296) ++ t), by unfold encL2 encR1; simp only [List.append_assoc, List.cons_append, List.nil_append], fun _ => rfl⟩
 ·rename_i h
  exact ⟨t, by unfold encR1; simp only [List.append_assoc, List.cons_append, List.nil_append], fun e => absurd e h⟩
theorem fld_of {x : Ins} (h : InsOk x) {i : Int} (hi : slotsN x.op ≠ 2 → i = (fixN x.op).2.2 + x.imm) : FldR (rowOf x.op) ((fixN x.op).1 + x.src) ((fixN x.op).2.1 + x.off) i := by
 obtain ⟨k, hk, e⟩ := op_in h.form
 have hf := h.field
 unfold fieldBad at hf
 simp only [Bool.or_eq_false_iff] at hf
 obtain ⟨⟨⟨-, h2⟩, h3⟩, h4⟩ := hf
 refine ⟨fun ho => ?_, fun ho hm => ?_, fun ho hm h10 => ?_⟩
 ·have hu : usesOff x.op = false := by
   unfold isOffR at ho
   have ho := of_decide_eq_true ho
   unfold usesOff formN
   rcases ho with e | e <;> rw [e] <;> decide
  rw [fBad_zero h3 hu]
  exact Int.add_zero _
 ·have hs2 : slotsN x.op ≠ 2 := fun e2 => by
   rw [e] at e2 hm
   have hr := rows_form ⟨k, hk⟩
   have := congrArg (·.2.2) (hr.2.2 (hr.2.1 e2))
   exact hm this
  rw [hi hs2]
  have hz : (fixN x.op).2.2 ≠ 0 := hm
  have := (fix_zero h).2.2.resolve_left hz
  rw [this]
  exact Int.add_zero _
 ·have hu : usesSrc x.op x.reg = false := by
   unfold is10R at h10
   have h10 := of_decide_eq_true h10
   unfold usesSrc formN
   rcases h10 with e | e <;> rw [e] <;> cases x.reg <;> decide
  rw [fBad_zero h2 hu]
  exact Int.add_zero _
theorem reg_ok {x : Ins} (h : InsOk x) : (codeR (rowOf x.op) x.reg).2 = true := by
 have hb := h.reg
 unfold codeR
 cases hr : x.reg with
 | false => rfl
 | true =>
  unfold regBad at hb
  rw [hr, Bool.true_and, Bool.and_eq_false_iff, Bool.not_eq_false', Bool.not_eq_false', beq_iff_eq, beq_iff_eq] at hb
  rw [if_neg (by decide), if_pos (show (rowOf x.op).form = 0 ∨ (rowOf x.op).form = 4 from hb)]
theorem dec_enc {x : Ins} (hx : x.Ok) (h : InsOk x) (t : List Int) : decE (encX9 x ++ t) = 0 ∧ decI (encX9 x ++ t) = x ∧ (idOf (encX9 x ++ t)).1 = x.op := by
 obtain ⟨k, hk, ek⟩ := op_in h.form
 obtain ⟨z1, z2, z3⟩ := fix_zero h
 have hfb := fixN_bd x.op
 have hdst := regOk_bd h.dst
 have hsrc := regOk_bd h.src
 have hoff := fits16_bd h.off
 have himm := h.imm
 have hro := rows_form ⟨k, hk⟩
 rw [← ek] at hro
 have hsl := slotsN_of h.form
 obtain ⟨R, hb, hR⟩ := enc_form x t
 have hlen : (encX9 x ++ t).length = (encX9 x).length + t.length := List.length_append
 have hle := encX9_length x
 obtain ⟨b, hbb⟩ : ∃ b, b = encX9 x ++ t := ⟨_, rfl⟩
 rw [← hbb] at hb hlen ⊢
 have d0 : b.getD 0 0 = (codeN x.op x.reg).1 := by rw [hb]; rfl
 have d1 : b.getD 1 0 = 16 * ((fixN x.op).1 + x.src) + x.dst := by
  rw [hb]
  show (16 * ((fixN x.op).1 + x.src) + x.dst) % 256 = _
  omega
 have s2 : subL b 2 2 = le 2 ((fixN x.op).2.1 + x.off) := subL_at (A := [(codeN x.op x.reg).1, (16 * ((fixN x.op).1 + x.src) + x.dst) % 256]) hb rfl (by rw [le_length])
 have s4 : subL b 4 4 = le 4 ((fixN x.op).2.2 + x.imm) := subL_at (A := [(codeN x.op x.reg).1, (16 * ((fixN x.op).1 + x.src) + x.dst) % 256] ++ le 2 ((fixN x.op).2.1 + x.off)) (C := R) (by rw [hb]; simp only [List.append_assoc, List.cons_append, List.nil_append]) (by simp [le_length]) (by rw [le_length])
 have o16 : sext 16 (lval (subL b 2 2)) = (fixN x.op).2.1 + x.off := by rw [s2]; exact sext_back16 (by omega) (by omega)
 have q1 : (16 * ((fixN x.op).1 + x.src) + x.dst) / 16 = (fixN x.op).1 + x.src := by omega
 have q2 : (16 * ((fixN x.op).1 + x.src) + x.dst) % 16 = x.dst := by omega
 have i32 : slotsN x.op ≠ 2 → sext 32 (lval (subL b 4 4)) = (fixN x.op).2.2 + x.imm := by
  intro hs
  have hn10 : formN x.op ≠ 10 := fun e => hs (by unfold slotsN; rw [if_neg h.form, if_pos (.inl e)])
  have hn11 : formN x.op ≠ 11 := fun e => hs (by unfold slotsN; rw [if_neg h.form, if_pos (.inr e)])
  have hbd : -2147483648 ≤ x.imm ∧ x.imm ≤ 2147483647 := by
   unfold immOk at himm
   rw [if_neg hn10] at himm
   split at himm
   ·have := of_decide_eq_true himm; omega
   ·first | rw [if_neg hn11] at himm | skip
    unfold fits32 at himm
    exact of_decide_eq_true himm
  rw [s4]
  exact sext_back32 (by omega) (by omega)
 have hid : idOf b = (x.op, x.reg, true) := by
  unfold idOf
  rw [d0, d1, q1, o16]
  have hr := reg_ok h
  have hfl := fld_of h i32
  rw [ek] at hr hfl ⊢
  exact idR_enc hk hr hfl
 have hI : decI b = x := by
  unfold decI
  rw [hid, d1, q1, q2, o16]
  obtain ⟨op, reg, n1, n2, n3, n4⟩ := x
  dsimp only at *
  congr 1
  ·omega
  ·omega
  ·rcases hsl with hs | hs
   ·rw [if_neg (by omega), i32 (by omega)]; omega
   ·rw [if_pos hs]
    have e12 : subL b 12 4 = le 4 (n4 / 4294967296) := subL_at (A := [(codeN op reg).1, (16 * ((fixN op).1 + n2) + n1) % 256] ++ (le 2 ((fixN op).2.1 + n3) ++ (le 4 ((fixN op).2.2 + n4) ++ le 4 0))) (C := t) (by rw [hb, hR hs]; simp only [List.append_assoc, List.cons_append, List.nil_append]) (by simp [le_length]) (by rw [le_length])
    have hz : (fixN op).2.2 = 0 := congrArg (·.2.2) (hro.2.2 (hro.2.1 hs))
    rw [e12, s4, hz, Int.zero_add]
    exact wide_back hx.imm
 refine ⟨?_, hI, by rw [hid]⟩
 unfold decE
 rw [hI, insE_of h, hid, d1, q1, q2]
 dsimp only
 rw [if_neg (by split at hle <;> omega), if_neg (by decide), if_neg (fun e => by rw [if_pos e.1] at hle; omega), if_neg (by omega), if_neg, if_neg (by decide)]
 rintro ⟨hs, hn⟩
 refine hn ?_
 rw [subL_at (A := [(codeN x.op x.reg).1, (16 * ((fixN x.op).1 + x.src) + x.dst) % 256] ++ (le 2 ((fixN x.op).2.1 + x.off) ++ le 4 ((fixN x.op).2.2 + x.imm))) (B := le 4 0) (C := le 4 (x.imm / 4294967296) ++ t) (by rw [hb, hR hs]; simp only [List.append_assoc, List.cons_append, List.nil_append]) (by simp [le_length]) (by rw [le_length])]
 decide
theorem steps_enc : ∀ (l : List Ins), (∀ x ∈ l, x.Ok ∧ InsOk x) → stepsN (l.flatMap encX9) = l.map fun x => (x, slotsN x.op, 0) := by
 intro l
 induction l with
 | nil => intro _; exact stepsN_nil
 | cons x l ih =>
  intro h
  obtain ⟨h1, h2⟩ := h x (by simp)
  obtain ⟨e1, e2, e3⟩ := dec_enc h1 h2 (l.flatMap encX9)
  have hl := encX9_length x
  have hs := slotsN_of h2.form
  have hX : decX (encX9 x ++ l.flatMap encX9) = x := by unfold decX; rw [if_pos e1, e2]
  have hN : decN (encX9 x ++ l.flatMap encX9) = slotsN x.op := by unfold decN; rw [if_pos e1, e3]
  have hpos : 8 ≤ (encX9 x).length := by split at hl <;> omega
  rw [List.flatMap_cons, stepsN_ok (fun e => by have := congrArg List.length e; rw [List.length_append, List.length_nil] at this; omega) e1, hX, hN, e1, List.map_cons]
  have hd : (encX9 x ++ l.flatMap encX9).drop (8 * (slotsN x.op).toNat) = l.flatMap encX9 := by
   rw [show 8 * (slotsN x.op).toNat = (encX9 x).length by rw [hl]; rcases hs with e | e <;> rw [e] <;> decide, List.drop_left]
  rw [hd, ih fun y hy => h y (by simp [hy])]
/-- The instructions of encoded instructions. -/
theorem all_enc {l : List Ins} (h : ∀ x ∈ l, x.Ok ∧ InsOk x) : allE (l.flatMap encX9) = 0 ∧ allI (l.flatMap encX9) = l := by
 have hs := steps_enc l h
 obtain ⟨h1, -, h3⟩ := all_done (b := l.flatMap encX9) (by rw [hs]; intro y hy; obtain ⟨x, -, rfl⟩ := List.mem_map.1 hy; rfl)
 refine ⟨h1, ?_⟩
 rw [h3, hs, List.map_map]
 exact List.map_id l
end Go.Proofs.YtmofdnlefjfcfaaGreatDoor


set_option linter.unusedVariables false
set_option linter.unusedSimpArgs false
namespace Go.Proofs.YtmofdnlefjfcfaaGreatDoor
open Go.RowKit Go.Lib

theorem getD_lt {α : Type} [Inhabited α] {l : List α} {i : Nat} (h : i < l.length) : l.getD i default = l[i] := by simp [List.getD, h]
theorem resL_getD {L : List Stmt} {i : Nat} (h : i < L.length) : (resL L).getD i default = resX L i := by
 rw [getD_lt (by rw [resL_length]; exact h)]
 simp only [resL, List.getElem_map, List.getElem_range]
theorem slotsT_rtake (L : List Stmt) (k : Nat) : slotsT ((resL L).take k) = slotsT ((codeL L).take k) := by
 have e : (resL L).map (fun x => slotsN x.op) = (codeL L).map fun x => slotsN x.op := by
  refine List.ext_getElem (by simp [resL, codeL]) fun i a b => ?_
  have hi : i < L.length := by simpa [codeL] using b
  simp only [resL, codeL, List.getElem_map, List.getElem_range]
  rw [(resX_op L i).1, getD_lt hi]
 unfold slotsT
 rw [List.map_take, List.map_take, e]
theorem asm_all {M : List Def} {L : List Stmt} (hok : ∀ x ∈ codeL L, x.Ok) (hl : L.length ≤ 100000) (h : (resE M L).2 = 0) : allE (asmO M L).code = 0 ∧ allI (asmO M L).code = resL L := by
 rw [asmO_ok h]
 exact all_enc fun x hx => ⟨resX_ok hok rfl (by omega) x hx, insE_zero (resL_insE h x hx)⟩
/-- What a statement of a correct program keeps. -/
theorem stmt_tail {M : List Def} {L : List Stmt} (h : (resE M L).2 = 0) {i : Nat} (hi : i < L.length) :
  TailOk (jumpsX (L.getD i default).ins) (formN (L.getD i default).ins.op == 11) (L.getD i default).ins.off (L.getD i default).ins.imm (L.getD i default).target (L.getD i default).map :=
 tailB_zero (stmtE_zero (pchk_stmt (resE_parts h).1 i hi)).2.2
theorem idB_em : idB emS = false := by decide +kernel
theorem neS_of_id {t : ByteArray} (h : idB t = true) : neS t = true := by
 unfold neS
 refine decide_eq_true fun e => ?_
 rw [e, idB_em] at h
 cases h
theorem mapX_ge0 {M : List Def} {s : ByteArray} (h : inL (emS :: namesL M) s = true) (hs : idB s = true) : 0 ≤ mapX M s := by
 unfold inL at h
 obtain ⟨z, hz, he⟩ := List.any_eq_true.1 h
 obtain rfl := of_decide_eq_true he
 have hne := neS_of_id hs
 unfold neS at hne
 have hne := of_decide_eq_true hne
 rcases List.mem_cons.1 hz with e | hz
 ·exact absurd e hne
 ·obtain ⟨d, hd, hn⟩ := List.mem_map.1 hz
  obtain ⟨k, hk, rfl⟩ := List.mem_iff_getElem.1 hd
  unfold mapX
  cases h0 : ((List.range M.length).findSome? fun i => if (M.getD i default).name = z then some (i : Int) else none) with
  | none =>
   rw [List.findSome?_eq_none_iff] at h0
   have := h0 k (by simpa using hk)
   rw [if_pos (by rw [getD_lt hk]; exact hn)] at this
   cases this
  | some r =>
   obtain ⟨j, hj, hr⟩ := List.exists_of_findSome?_eq_some h0
   split at hr
   ·injection hr with hr
    show (0 : Int) ≤ r
    omega
   ·cases hr
theorem atN_ge {L : List Ins} {s : Int} {k : Nat} (hk : k < L.length) (h : slotsT (L.take k) = s) : 0 ≤ atN L s := by
 unfold atN
 cases h0 : ((List.range L.length).findSome? fun i => if slotsT (L.take i) = s then some (i : Int) else none) with
 | none =>
  rw [List.findSome?_eq_none_iff] at h0
  have := h0 k (by simpa using hk)
  rw [if_pos h] at this
  cases this
 | some r =>
  obtain ⟨j, hj, hr⟩ := List.exists_of_findSome?_eq_some h0
  split at hr
  ·injection hr with hr
   show (0 : Int) ≤ r
   omega
  ·cases hr
theorem asm_two {M : List Def} {L : List Stmt} (h : (resE M L).2 = 0) : OneTwo (resL L) := fun x hx => slotsN_of (insE_zero (resL_insE h x hx)).form
theorem asm_fields {M : List Def} {L : List Stmt} (h : (resE M L).2 = 0) : fstN fieldP (resL L) = none := by
 refine fstN_none fun j hj => ?_
 rw [resL_length] at hj
 have ht := stmt_tail h hj
 rw [resL_getD hj]
 obtain ⟨e1, -, -, -, e5⟩ := resX_op L j
 unfold fieldP
 rw [e1, e5]
 cases hf : (formN (L.getD j default).ins.op == 11) with
 | false => rfl
 | true => rw [ht.imm hf]; rfl
theorem asm_links {M : List Def} {L : List Stmt} (h : (resE M L).2 = 0) (n : Nat) : lkN (resL L) (refsOf M L L.length) n = none := by
 refine lkN_none fun s hs => ?_
 refine Bool.eq_iff_iff.2 ((refersN_iff (asm_two h) s).trans (Iff.trans ?_ hasN_iff.symm))
 constructor
 ·rintro ⟨i, hi, h1, h2⟩
  rw [resL_length] at hi
  rw [resL_getD hi, (resX_op L i).1] at h2
  have ht := stmt_tail h hi
  have hf : (formN (L.getD i default).ins.op == 11) = true := beq_iff_eq.2 h2
  have hu := pchk_und (resE_parts h).1 i hi
  unfold undB at hu
  rw [Bool.or_eq_false_iff] at hu
  have hin : inL (emS :: namesL M) (L.getD i default).map = true := by simpa using hu.2
  have hmx := mapX_ge0 hin (ht.mid hf)
  refine ⟨⟨slotsT ((codeL L).take i), mapX M (L.getD i default).map⟩, List.mem_flatMap.2 ⟨i, by simpa using hi, ?_⟩, ?_⟩
  ·unfold refR
   rw [if_pos ⟨h2, hmx⟩]
   exact List.mem_singleton.2 rfl
  ·rw [← h1, slotsT_rtake]
 ·rintro ⟨r, hr, h1⟩
  obtain ⟨i, hi, h2⟩ := List.mem_flatMap.1 hr
  have hi' : i < L.length := by simpa using hi
  unfold refR at h2
  split at h2
  ·rename_i h3
   obtain rfl := List.mem_singleton.1 h2
   exact ⟨i, by rw [resL_length]; exact hi', by rw [slotsT_rtake]; exact h1, by rw [resL_getD hi', (resX_op L i).1]; exact h3.1⟩
  ·cases h2
theorem asm_jumps {M : List Def} {L : List Stmt} (h : (resE M L).2 = 0) : tgtBad (resL L) = -1 := by
 refine tgtBad_none fun j hj => ?_
 rw [resL_length] at hj
 have ht := stmt_tail h hj
 unfold tgtBadAt tgtN
 rw [resL_getD hj]
 have hop := (resX_op L j).1
 have hjx : jumpsX (resX L j) = jumpsX (L.getD j default).ins := by unfold jumpsX; rw [hop]
 rw [hjx]
 cases hJ : jumpsX (L.getD j default).ins with
 | false => rfl
 | true =>
  rw [Bool.true_and]
  have hne := neS_of_id (ht.tid hJ)
  obtain ⟨g1, g2⟩ := lab_in (resE_parts h).1 hj hne
  have ho : (resX L j).off = disI L j := by unfold resX; rw [if_pos hne]
  refine decide_eq_false ?_
  have := atN_ge (L := resL L) (s := slotsT ((resL L).take (j + 1)) + (resX L j).off) (k := (labX L (L.getD j default).target).toNat) (by rw [resL_length]; omega) (by rw [slotsT_rtake, slotsT_rtake, ho]; unfold disI; omega)
  omega
theorem asm_writes {M : List Def} {L : List Stmt} (h : (resE M L).2 = 0) : fstN writeP (resL L) = none := by
 refine fstN_none fun j hj => ?_
 rw [resL_length] at hj
 rw [resL_getD hj]
 obtain ⟨e1, -, e3, -, -⟩ := resX_op L j
 have h1 := findS_zero (pchk_all (resE_parts h).1 (findS wrE L) (by simp [prRs])) j hj
 have hw : writesX (resX L j) = writesX (L.getD j default).ins := by unfold writesX; rw [e1, e3]
 unfold writeP
 rw [hw]
 unfold wrE whenN at h1
 cases hb : (writesX (L.getD j default).ins == 10) with
 | false => rfl
 | true => rw [hb] at h1; exact absurd h1 (by decide)
theorem asm_ends {M : List Def} {L : List Stmt} (h : (resE M L).2 = 0) {k : Nat} (hk : L.length = k + 1) : endsX ((resL L).getD k default) = true := by
 rw [resL_getD (by omega)]
 obtain ⟨e1, -⟩ := resX_op L k
 have h1 := findS_zero (pchk_all (resE_parts h).1 (findS (enE L.length) L) (by simp [prRs])) k (by omega)
 have hw : endsX (resX L k) = endsX (L.getD k default).ins := by unfold endsX; rw [e1]
 rw [hw]
 unfold enE whenN at h1
 rw [show decide (k + 1 = L.length) = true from decide_eq_true hk.symm, Bool.true_and] at h1
 cases hb : endsX (L.getD k default).ins with
 | true => rfl
 | false => rw [hb] at h1; exact absurd h1 (by decide)
/-- The object of a program is valid. -/
theorem asm_chk17 {M : List Def} {L : List Stmt} (hok : ∀ x ∈ codeL L, x.Ok) (hl : L.length ≤ 100000) (h : (resE M L).2 = 0) : chk17 (asmO M L) = (0, 0) := by
 obtain ⟨a1, a2⟩ := asm_all hok hl h
 have hne := (asm_ok h).ne
 obtain ⟨k, hk⟩ : ∃ k, L.length = k + 1 := ⟨L.length - 1, by omega⟩
 rw [chk17_rest (asm_obE h) a1, a2, show (asmO M L).rels = refsOf M L L.length by rw [asmO_ok h], r17_0n (asm_fields h), r17_1n (asm_links h _), r17_2n (asm_jumps h), r17_3n (asm_writes h), r17_4n (k := k) (by rw [resL_length]; exact hk) (asm_ends h hk)]
end Go.Proofs.YtmofdnlefjfcfaaGreatDoor
