/- slices.Equal of numbers. -/
import Derived.Test.YtmnbalbiehlkpaaGreatDoorJTab
import Derived.Test.YtmnbalbiehlkpaaGreatDoorJCore
import Derived.Test.YtmnbalbiehlkpaaGreatDoorJSymE
import Derived.Test.YtmnbalbiehlkpaaGreatDoorJSRp
import Derived.Deep.Slices
import Derived.Deep.Fields
import Derived.ChangeSame
import Derived.Lib.SmallJoins
import Derived.ProofKit
import Derived.Test.YtmnbalbiehlkpaaGreatDoorRows
import Derived.Test.YtmnbalbiehlkpaaGreatDoorJObj
import Derived.Stop.LaidErr
import Derived.Lib.LaidU8
import Derived.MakeChecks
import Derived.LaidOnce
import Derived.Lay
import Derived.Test.YtmnbalbiehlkpaaGreatDoorJSlot
import Derived.JoinedOf
set_option linter.unusedVariables false
set_option linter.unusedSimpArgs false
namespace Go.Proofs.YtmnbalbiehlkpaaGreatDoor
open Go.RowKit

set_option maxRecDepth 20000 in
set_option maxHeartbeats 800000 in
theorem equalI_any (va vb : Value) (a b : List Int) (w : World) (ha : IsInts w va a) (hb : IsInts w vb b) :
  Calls Tryz.prog 14 #[va, vb] w fun e w' => e = .returned (.bool (decide (a = b))) ∧ Ext w w' := by
 obtain ⟨A, c, rfl, hc, hl, ha'⟩ := ha.form
 obtain ⟨B, d, rfl, hd, hm, hb'⟩ := hb.form
 by_cases hln : a.length = b.length
 ·have hb1 : ((a.length : Int) != (b.length : Int)) = false := by simp; omega
  have HLN := hx hln
  have hlb : b.length ≤ a.length := by omega
  clear hln
  go_enter Tryz.func14, Tryz.ntmps14
  go_wp2
  go_loopw [13] (fun i wr => ∃ (pre s1 s2 : List Int), a = pre ++ s1 ∧ b = pre ++ s2 ∧ i = .int .i64 (pre.length : Nat) ∧ Ext w wr) (fun i _ => a.length - (RowKit.intOf i).toNat)
  case atStart => exact ⟨[], a, b, rfl, rfl, rfl, Ext.refl _⟩
  case round =>
   obtain ⟨pre, s1, s2, h1, h2, rfl, he⟩ := hrel
   have hs := eq_split h1 h2 HLN.out
   cases s1 with
   | cons x s1 =>
    cases s2 with
    | nil => simp at hs
    | cons y s2 =>
     have hlt : pre.length < a.length := by rw [h1]; simp
     have hlt2 : pre.length < b.length := by rw [h2]; simp
     have hvx := ha'
     rw [h1] at hvx
     obtain ⟨bb, o, rfl, d1⟩ := hvx.at
     have hvy := hb'
     rw [h2] at hvy
     obtain ⟨bc, q, rfl, d2⟩ := hvy.at
     replace d1 := he.cell d1.1
     replace d2 := he.cell d2.1
     rw [Nat.mul_one] at d1 d2
     have H1 := hx h1
     have H2 := hx h2
     clear h1 h2 hs hvx hvy
     have i0 : (0 : Int) ≤ (pre.length : Int) := by omega
     have i1 : (pre.length : Int) < (a.length : Int) := by omega
     have i2 : (pre.length : Int) < (b.length : Int) := by omega
     by_cases hxy : x = y
     ·subst hxy
      go_wp2
      go_quiet (fail)
      go_wp2
      go_roundw
      case rel => exact ⟨pre ++ [x], s1, s2, by simp [H1.out], by simp [H2.out], by simp, he.drewN _⟩
      case measure => simp [RowKit.intOf]; omega
     ·have b2 : (x != y) = true := by simpa using hxy
      have hne : Hx (decide (a = b) = false) := ⟨by simp [H1.out, H2.out, hxy]⟩
      have hxy' := hx hxy
      clear hxy
      go_wp2
      go_quiet (fail)
      go_wp2
      go_ret
      exact ⟨ret_bool hne.out.symm, he.drewN _⟩
   | nil =>
    obtain rfl : a = pre := by simpa using h1
    obtain rfl : s2 = [] := by simpa using hs.symm
    have heq : Hx (decide (a = b) = true) := ⟨by simp [h2]⟩
    clear h1 h2
    have hlt : ¬ a.length < a.length := by omega
    go_wp2
    go_ret
    exact ⟨ret_bool heq.out.symm, he⟩
 ·have hb1 : ((a.length : Int) != (b.length : Int)) = true := by simp; omega
  have hne : Hx (decide (a = b) = false) := ⟨by simp; intro e; exact hln (by rw [e])⟩
  go_enter Tryz.func14, Tryz.ntmps14
  go_wp2
  go_ret
  exact ⟨ret_bool hne.out.symm, Ext.refl _⟩

end Go.Proofs.YtmnbalbiehlkpaaGreatDoor


set_option linter.unusedVariables false
set_option linter.unusedSimpArgs false
namespace Go.Proofs.YtmnbalbiehlkpaaGreatDoor
open Go.RowKit Go.Lib

theorem reach24A : reach24 [] L24 = [0, 1] := by decide +kernel
def c24 (g : Nat) : List Value := [.slice none 0 0, .int .i64 44, .bool false, .int .i64 0, .int .i64 0, .int .i64 0, .int .i64 0, .string ⟨#[120]⟩, .string ⟨#[]⟩, .slice (some ⟨g, 0, none⟩) 1 1, .int .i64 68, .bool false, .int .i64 0, .int .i64 0, .int .i64 0, .int .i64 0, .string ⟨#[]⟩, .string ⟨#[]⟩]
theorem isStmts24 {W : World} {g h : Nat} (r1 : RowV W g 9 [.string ⟨#[120]⟩]) (r2 : RowV W h 55 (c24 g)) : IsStmts W (.slice (some ⟨h, 0, none⟩) 2 2) L24 := by
 refine ⟨some ⟨h, 0, none⟩, 2, rfl, ⟨Nat.le_refl 2, by decide⟩, by decide, (fun e => by cases e), fun i u hu => ⟨h, 0, rfl, ?_⟩⟩
 match i, hu with
 | 0, hu =>
  obtain rfl := Option.some.inj hu
  exact ⟨_, r2.cell (i := 0) rfl, Sl.nil _, ⟨r2.cell (i := 1) rfl, r2.cell (i := 2) rfl, r2.cell (i := 3) rfl, r2.cell (i := 4) rfl, r2.cell (i := 5) rfl, r2.cell (i := 6) rfl⟩, by constructor <;> exact ⟨by decide, by decide⟩, ⟨r2.cell (i := 7) rfl, by decide⟩, r2.cell (i := 8) rfl, by decide⟩
 | 1, hu =>
  obtain rfl := Option.some.inj hu
  refine ⟨_, r2.cell (i := 9) rfl, ⟨some ⟨g, 0, none⟩, 1, rfl, ⟨Nat.le_refl 1, by decide⟩, by decide, (fun e => by cases e), fun i u hu => ⟨g, 0, rfl, ?_⟩⟩,
   ⟨r2.cell (i := 10) rfl, r2.cell (i := 11) rfl, r2.cell (i := 12) rfl, r2.cell (i := 13) rfl, r2.cell (i := 14) rfl, r2.cell (i := 15) rfl⟩, by constructor <;> exact ⟨by decide, by decide⟩, ⟨r2.cell (i := 16) rfl, by decide⟩, r2.cell (i := 17) rfl, by decide⟩
  match i, hu with
  | 0, hu =>
   obtain rfl := Option.some.inj hu
   exact ⟨r1.cell (i := 0) rfl, by decide⟩
  | n + 1, hu => simp [s24B] at hu
 | n + 2, hu => simp [L24] at hu
theorem ints01 {W : World} {h : Nat} (r : RowV W h 3 [.int .i64 0, .int .i64 1]) : IsInts W (.slice (some ⟨h, 0, none⟩) 2 2) [0, 1] := by
 refine ⟨some ⟨h, 0, none⟩, 2, rfl, ⟨Nat.le_refl 2, by decide⟩, by decide, (fun e => by cases e), fun i u hu => ⟨h, 0, rfl, ?_⟩⟩
 match i, hu with
 | 0, hu => obtain rfl := Option.some.inj hu; exact ⟨r.cell (i := 0) rfl, by decide, by decide⟩
 | 1, hu => obtain rfl := Option.some.inj hu; exact ⟨r.cell (i := 1) rfl, by decide, by decide⟩
 | n + 2, hu => simp at hu
theorem outc_eql (W : World) : (binOp .eql 35 (.agg #[.int .i64 0, .int .u64 0, .int .i64 0, .int .i64 0]) (.agg #[.int .i64 0, .int .u64 0, .int .i64 0, .int .i64 0])).run Tryz.prog W = .ok (.bool true) W := by
 kernel_rfl
set_option maxRecDepth 40000 in
set_option maxHeartbeats 8000000 in
theorem alive24_any (w : World) (hG : Glob w) (hN : NoneV w) (hO : OpsN w) (hWd : WidN w) : Calls Tryz.prog 8 #[] w fun e w' => e = .returned (.bool true) ∧ Ext w w' := by
 obtain ⟨W1, hW1⟩ : ∃ W1, W1 = ((w.alloc (.cells #[.string ⟨#[120]⟩] 9)).alloc (.cells (c24 w.heap.size).toArray 55)).alloc (.cells #[.slice none 0 0, .slice (some ⟨w.heap.size + 1, 0, none⟩) 2 2] 25) := ⟨_, rfl⟩
 have e1 : Ext w W1 := by rw [hW1]; exact ((Ext.new _ _).alloc _).alloc _
 have ra : RowV W1 w.heap.size 9 [.string ⟨#[120]⟩] := by rw [hW1]; exact (RowV.new _ _ _).ext ((Ext.new _ _).alloc _)
 have rb : RowV W1 (w.heap.size + 1) 55 (c24 w.heap.size) := by
  rw [hW1]
  have h := RowV.new (w.alloc (.cells #[.string ⟨#[120]⟩] 9)) (c24 w.heap.size) 55
  rw [World.size_alloc] at h
  exact h.ext (Ext.new _ _)
 have rp : RowV W1 (w.heap.size + 1 + 1) 25 [.slice none 0 0, .slice (some ⟨w.heap.size + 1, 0, none⟩) 2 2] := by
  rw [hW1]
  have h := RowV.new ((w.alloc (.cells #[.string ⟨#[120]⟩] 9)).alloc (.cells (c24 w.heap.size).toArray 55)) [.slice none 0 0, .slice (some ⟨w.heap.size + 1, 0, none⟩) 2 2] 25
  rwa [World.size_alloc, World.size_alloc] at h
 have HS := hx fun (W : World) (hW : Ext W1 W) => isStmts24 (ra.ext hW) (rb.ext hW)
 have HT := hx fun (W : World) (hW : Ext W1 W) => symTraceA_any (some ⟨w.heap.size + 1, 0, none⟩) 2 W (HS.out W hW) (hG.ext (e1.trans hW)) (hN.ext (e1.trans hW)) (hO.ext (e1.trans hW)) (hWd.ext (e1.trans hW))
 have HR := hx fun (W : World) (hW : Ext W1 W) => symRunA_any (some ⟨w.heap.size + 1, 0, none⟩) 2 W (HS.out W hW) (hG.ext (e1.trans hW)) (hN.ext (e1.trans hW)) (hO.ext (e1.trans hW)) (hWd.ext (e1.trans hW))
 have HE := hx fun (W : World) (hW : Ext W1 W) => symRunE_any W (hG.ext (e1.trans hW)) (hN.ext (e1.trans hW)) (hO.ext (e1.trans hW)) (hWd.ext (e1.trans hW))
 have HC0 := fun (W : World) (hW : Ext W1 W) => symReached_any none (some ⟨w.heap.size + 1, 0, none⟩) 0 0 2 2 [] L24 W rfl (by omega) rfl (by omega) (Sl.nil _) (HS.out W hW) (by decide) (hG.ext (e1.trans hW)) (hN.ext (e1.trans hW)) (hO.ext (e1.trans hW)) (hWd.ext (e1.trans hW))
 rw [reach24A] at HC0
 have HC := hx HC0
 have RP := hx rp
 have E1 := hx e1
 have HW1 := hx hW1
 clear HC0 hW1 ra rb rp e1 hG hN hO hWd
 go_enter Tryz.func8, Tryz.ntmps8
 go_wp2_with fail
 simp only [c24] at HW1
 rw [← HW1.out]
 refine (HT.out W1 (Ext.refl _)).mono ?_
 rintro e w1 ⟨v, rfl, o1, x1⟩
 obtain ⟨A1, c1, rfl, -⟩ := o1.form
 have O1 := hx o1
 have p0 := (RP.out.ext x1).cell (i := 0) rfl
 have p1 := (RP.out.ext x1).cell (i := 1) rfl
 have X1 := hx x1
 clear o1 x1 HW1 HT
 go_wp2_with fail
 refine (HR.out w1 X1.out).mono ?_
 rintro e w2 ⟨v2, rfl, x2⟩
 have X2 := hx (X1.out.trans x2)
 have O2 := hx (IsInts.ext O1.out x2)
 clear x2 HR O1 p0 p1 X1
 go_wp2_with fail
 refine (HE.out _ (X2.out.trans (Ext.new _ _))).mono ?_
 rintro e w3 ⟨v3, rfl, x3⟩
 have o3 := (RowV.new w2 [.int .i64 0, .int .u64 0, .int .i64 0, .int .i64 0] 35).ext x3
 have OO := hx o3
 have O3 := hx (IsInts.ext O2.out ((Ext.new _ _).trans x3))
 have X3 := hx (X2.out.trans ((Ext.new _ _).trans x3))
 clear x3 o3 HE O2 X2
 have hoe := outc_eql
 go_wp2_with fail
 have i3 := ints01 (RowV.new (w3.alloc (.cells #[.int .i64 0, .int .u64 0, .int .i64 0, .int .i64 0] 35)) [.int .i64 0, .int .i64 1] 3)
 rw [World.size_alloc] at i3
 refine (equalI_any _ _ _ _ _ (IsInts.ext O3.out ((Ext.new w3 _).alloc _)) i3).mono ?_
 rintro e w4 ⟨rfl, x4⟩
 have x5 := ((Ext.new w3 (.cells #[.int .i64 0, .int .u64 0, .int .i64 0, .int .i64 0] 35)).alloc (.cells #[.int .i64 0, .int .i64 1] 3)).trans x4
 have q0 := (OO.out.ext x5).cell (i := 0) rfl
 have q1 := (OO.out.ext x5).cell (i := 1) rfl
 have q2 := (OO.out.ext x5).cell (i := 2) rfl
 have q3 := (OO.out.ext x5).cell (i := 3) rfl
 have p0 := (RP.out.ext (X3.out.trans x5)).cell (i := 0) rfl
 have p1 := (RP.out.ext (X3.out.trans x5)).cell (i := 1) rfl
 have X4 := hx (X3.out.trans x5)
 clear x4 x5 X3 O3 i3
 go_wp2_with fail
 refine (HC.out w4 X4.out).mono ?_
 rintro e w5 ⟨v5, rfl, o5, x5⟩
 obtain ⟨A5, c5, rfl, -⟩ := o5.form
 have O5 := hx o5
 have X5 := hx (X4.out.trans x5)
 clear o5 x5 HC X4 p0 p1 q0 q1 q2 q3
 go_wp2_with fail
 have i5 := ints01 (RowV.new w5 [.int .i64 0, .int .i64 1] 3)
 refine (equalI_any _ _ _ _ _ (IsInts.ext O5.out (Ext.new w5 _)) i5).mono ?_
 rintro e w6 ⟨rfl, x6⟩
 have X6 := hx (E1.out.trans (X5.out.trans ((Ext.new w5 _).trans x6)))
 clear i5 x6 X5 O5
 go_wp2_with fail
 go_ret
 exact ⟨rfl, X6.out⟩
end Go.Proofs.YtmnbalbiehlkpaaGreatDoor


set_option linter.unusedVariables false
set_option linter.unusedSimpArgs false
namespace Go.Proofs.YtmnbalbiehlkpaaGreatDoor
open Go.RowKit Go.Lib

/-- Is a program small? -/
def fewP (M : List Def) (L : List Stmt) : Bool := decide (M.length ≤ 300) && decide (L.length ≤ 60) && decide ((flat L).length ≤ 200)
set_option maxRecDepth 40000 in
set_option maxHeartbeats 4000000 in
theorem refFew_any (A1 A2 : Option Addr) (m1 c1 m c2 : Nat) (M : List Def) (L : List Stmt) (w : World) (hm1 : m1 = M.length) (hm1l : m1 ≤ 281474976710656) (hm : m = L.length) (hml : m ≤ 281474976710656) (hv : IsStmts w (.slice A2 m c2) L) :
  Calls Tryz.prog 6 #[.agg #[.slice A1 m1 c1, .slice A2 m c2]] w fun e w' => e = .returned (.bool (fewP M L)) ∧ Ext w w' := by
 obtain ⟨W0, hW0⟩ : ∃ W0, W0 = w.alloc (.cells #[.slice A1 m1 c1, .slice A2 m c2] 25) := ⟨_, rfl⟩
 have e0 : Ext w W0 := by rw [hW0]; exact Ext.new w _
 have q0 : W0.cell? ⟨w.heap.size, 0, none⟩ = some (.slice A1 m1 c1) := by rw [hW0]; simp
 have q1 : W0.cell? ⟨w.heap.size, 1, none⟩ = some (.slice A2 m c2) := by rw [hW0]; simp
 have hv0 := IsStmts.ext hv e0
 have HM := hx hm
 have HFP := hx (show fewP M L = (decide (m1 ≤ 300) && decide (m ≤ 60) && decide ((flat L).length ≤ 200)) by rw [hm1, hm]; rfl)
 have E0 := hx e0
 clear hm hm1 hv e0
 go_enter Tryz.func6, Tryz.ntmps6
 go_wp2
 rw [← hW0]
 clear hW0
 go_loop [3, 4] (fun n i => ∃ (k t : Nat), k ≤ m ∧ k ≤ 61 ∧ i = .int .i64 (k : Nat) ∧ n = .int .i64 (t : Nat) ∧ t = (flat (L.take k)).length ∧ t ≤ k * 281474976710656) (fun _ i => m - (RowKit.intOf i).toNat)
 case atStart => exact ⟨0, 0, by omega, by omega, rfl, rfl, rfl, by omega⟩
 case round =>
  obtain ⟨k, t, hk, hk2, rfl, rfl, ht, htb⟩ := hrel
  have HT := hx ht
  clear ht
  by_cases hlt : k < m
  ·have hkm : (k : Int) < (m : Int) := by omega
   by_cases h60 : k ≤ 60
   ·have hk60 : decide ((k : Int) ≤ 60) = true := decide_eq_true (by omega)
    obtain ⟨x, hx0⟩ : ∃ x, L[k]? = some x := ⟨_, List.getElem?_eq_getElem (by have := HM.out; omega)⟩
    obtain ⟨b, o, rfl, vl, d0, dl, -, -, -, -⟩ := hv0.get hx0
    obtain ⟨Al, cl, rfl, -, hll, -⟩ := dl.form
    have hft : (flat (L.take (k + 1))).length = t + x.labels.length := by
     rw [List.take_add_one, hx0, flat_app, List.length_append, ← HT.out]
     simp [flat]
    have HFT := hx hft
    generalize x.labels.length = ll at *
    have hwr : wrap64 ((t : Int) + (ll : Int)) = ((t + ll : Nat) : Int) := by unfold wrap64; omega
    have hle : t + ll ≤ (k + 1) * 281474976710656 := by omega
    have HLE := hx hle
    have HWR := hx hwr
    clear dl hx0 hft hle hwr htb
    go_wp2
    go_round
    case rel => exact ⟨k + 1, t + ll, by omega, by omega, by go_num, by rw [HWR.out], HFT.out.symm, HLE.out⟩
    case measure => simp [RowKit.intOf]; omega
   ·have hk60 : decide ((k : Int) ≤ 60) = false := decide_eq_false (by omega)
    have hm60 : decide ((m : Int) ≤ 60) = false := decide_eq_false (by omega)
    have HR := hx (show fewP M L = false by rw [HFP.out, decide_eq_false (p := m ≤ 60) (by omega)]; simp)
    by_cases h3 : m1 ≤ 300
    ·have hd3 : decide ((m1 : Int) ≤ 300) = true := decide_eq_true (by omega)
     clear htb
     go_wp2
     go_ret
     exact ⟨ret_bool HR.out.symm, E0.out⟩
    ·have hd3 : decide ((m1 : Int) ≤ 300) = false := decide_eq_false (by omega)
     clear htb
     go_wp2
     go_ret
     exact ⟨ret_bool HR.out.symm, E0.out⟩
  ·obtain rfl : m = k := by omega
   have ht2 : t = (flat L).length := by rw [HT.out, List.take_of_length_le (by rw [← HM.out]; exact Nat.le_refl _)]
   rw [← ht2] at HFP
   have hFP := HFP.out
   by_cases h3 : m1 ≤ 300
   ·have hd3 : decide ((m1 : Int) ≤ 300) = true := decide_eq_true (by omega)
    rw [decide_eq_true h3] at hFP
    by_cases h6 : m ≤ 60
    ·have hd6 : decide ((m : Int) ≤ 60) = true := decide_eq_true (by omega)
     rw [decide_eq_true h6] at hFP
     by_cases h2 : t ≤ 200
     ·have hd2 : decide ((t : Int) ≤ 200) = true := decide_eq_true (by omega)
      rw [decide_eq_true h2] at hFP
      have HR := hx hFP
      clear hFP htb ht2
      go_wp2
      go_ret
      exact ⟨ret_bool HR.out.symm, E0.out⟩
     ·have hd2 : decide ((t : Int) ≤ 200) = false := decide_eq_false (by omega)
      rw [decide_eq_false h2] at hFP
      have HR := hx hFP
      clear hFP htb ht2
      go_wp2
      go_ret
      exact ⟨ret_bool HR.out.symm, E0.out⟩
    ·have hd6 : decide ((m : Int) ≤ 60) = false := decide_eq_false (by omega)
     rw [decide_eq_false h6] at hFP
     have HR := hx hFP
     clear hFP htb ht2
     go_wp2
     go_ret
     exact ⟨ret_bool (by rw [HR.out]; simp), E0.out⟩
   ·have hd3 : decide ((m1 : Int) ≤ 300) = false := decide_eq_false (by omega)
    rw [decide_eq_false h3] at hFP
    have HR := hx hFP
    clear hFP htb ht2
    go_wp2
    go_ret
    exact ⟨ret_bool (by rw [HR.out]; simp), E0.out⟩
end Go.Proofs.YtmnbalbiehlkpaaGreatDoor


set_option linter.unusedVariables false
set_option linter.unusedSimpArgs false
namespace Go.Proofs.YtmnbalbiehlkpaaGreatDoor
open Go.RowKit Go.Lib

theorem fewP_bd24 {M : List Def} {L : List Stmt} (h : fewP M L = true) : M.length ≤ 300 ∧ L.length ≤ 60 ∧ (flat L).length ≤ 200 := by
 unfold fewP at h
 simp only [Bool.and_eq_true, decide_eq_true_eq] at h
 omega
set_option maxRecDepth 40000 in
set_option maxHeartbeats 8000000 in
theorem symReaches_any (v : Value) (p : Pr) (w : World) (h : IsPr w v p) (hG : Glob w) (hN : NoneV w) (hO : OpsN w) (hWd : WidN w) :
  Calls Tryz.prog 5 #[v] w fun e w' => e = .returned (.bool true) ∧ Ext w w' := by
 obtain ⟨M, L⟩ := p
 obtain ⟨v1, v2, rfl, hd, hv⟩ := h
 dsimp only at hd hv
 obtain ⟨A1, c1, rfl, -, hdl, hd'⟩ := hd.form
 obtain ⟨A2, c2, rfl, -, hvl, hv'⟩ := hv.form
 obtain ⟨m1, hm1⟩ : ∃ m1, m1 = M.length := ⟨_, rfl⟩
 obtain ⟨m, hm⟩ : ∃ m, m = L.length := ⟨_, rfl⟩
 rw [← hm1] at hdl hd' ⊢
 rw [← hm] at hvl hv' ⊢
 obtain ⟨W0, hW0⟩ : ∃ W0, W0 = w.alloc (.cells #[.slice A1 m1 c1, .slice A2 m c2] 25) := ⟨_, rfl⟩
 have e0 : Ext w W0 := by rw [hW0]; exact Ext.new _ _
 have r0 : RowV W0 w.heap.size 25 [.slice A1 m1 c1, .slice A2 m c2] := by rw [hW0]; exact RowV.new _ _ _
 have hF := refFew_any A1 A2 m1 c1 m c2 M L W0 hm1 hdl hm hvl (IsStmts.ext hv' e0)
 have CA := hx (fun (W : World) (hW : Ext w W) => alive24_any W (hG.ext hW) (hN.ext hW) (hO.ext hW) (hWd.ext hW))
 rw [hW0] at hF
 have HF := hx hF
 have HW0 := hx hW0
 have q0 := r0.cell (i := 0) rfl
 have q1 := r0.cell (i := 1) rfl
 cases hf : fewP M L with
 | false =>
  rw [hf] at HF
  clear hf hW0 hd hv hd' hv' hG hN hO hWd hF hm hm1 hdl hvl
  go_enter Tryz.func5, Tryz.ntmps5
  go_wp2_with (first
   | (go_at_call 6; refine HF.out.mono ?_; rintro e w1 ⟨rfl, e1⟩; rw [← HW0.out] at e1)
   | (go_at_call 8; refine (CA.out _ (e0.trans e1)).mono ?_; rintro e w2 ⟨rfl, e2⟩))
  go_ret
  exact ⟨rfl, (e0.trans e1).trans e2⟩
 | true =>
  rw [hf] at HF
  obtain ⟨b1, b2, b3⟩ := fewP_bd24 hf
  have C1 := hx (fun (W : World) (hW : Ext w W) => symReached_any A1 A2 m1 c1 m c2 M L W hm1 (by omega) hm (by omega) (IsDefs.ext hd' hW) (IsStmts.ext hv' hW) (by omega) (hG.ext hW) (hN.ext hW) (hO.ext hW) (hWd.ext hW))
  have C2 := hx (fun (W : World) (hW : Ext w W) => refReached_any A1 A2 m1 c1 m c2 M L W hm1 (by omega) hm (by omega) (IsDefs.ext hd' hW) (IsStmts.ext hv' hW) (by omega))
  generalize reach24 M L = RL at *
  have R0 := hx r0
  clear hf hW0 hd hv hd' hv' hG hN hO hWd hF hm hm1 hdl hvl b1 b2 b3 r0
  go_enter Tryz.func5, Tryz.ntmps5
  go_wp2_with fail
  refine HF.out.mono ?_
  rintro e w1 ⟨rfl, e1⟩
  rw [← HW0.out] at e1
  have E1 := hx (e0.trans e1)
  have R1 := R0.out.ext e1
  have L5 := hx fun (W : World) (h : Ext w1 W) => (⟨(R1.ext h).cell (i := 0) rfl, (R1.ext h).cell (i := 1) rfl⟩ : W.cell? ⟨w.heap.size, 0, none⟩ = some (.slice A1 m1 c1) ∧ W.cell? ⟨w.heap.size, 1, none⟩ = some (.slice A2 m c2))
  clear HF HW0 e0 e1 q0 q1 R0 R1
  go_upto_region 3 with fail
  have x0 := Ext.refl w1
  have x1 := x0.drew
  go_region_held3 (fun w' => w'.cell? ⟨w.heap.size, 0, none⟩ = some (.slice A1 m1 c1) ∧ w'.cell? ⟨w.heap.size, 1, none⟩ = some (.slice A2 m c2)) (exact L5.out _ (by assumption))
   (first
    | (go_at_call 8; refine (CA.out _ (E1.out.trans (by assumption))).mono ?_; rintro e wa ⟨rfl, y1⟩; have ea : Ext w1 wa := Ext.trans (by assumption) y1; clear CA)
    | (go_at_call 15; refine (C1.out _ (E1.out.trans (by assumption))).mono ?_; rintro e w2 ⟨v2, rfl, o2, y2⟩; have e2 : Ext w1 w2 := Ext.trans (by assumption) y2; clear C1)
    | (go_at_call 17; refine (C2.out _ (E1.out.trans (by assumption))).mono ?_; rintro e w3 ⟨v3, rfl, o3, y3⟩; have e3 : Ext w1 w3 := Ext.trans (by assumption) y3; clear C2)
    | (go_at_call 14; refine (equalI_any _ _ RL RL _ (IsInts.ext o2 y3) o3).mono ?_; rintro e w4 ⟨rfl, y4⟩; have e4 : Ext w1 w4 := Ext.trans (by assumption) y4))
  all_goals
   go_wp2
   go_ret
   exact ⟨ret_bool (by simp), E1.out.trans (by assumption)⟩
end Go.Proofs.YtmnbalbiehlkpaaGreatDoor


set_option linter.unusedVariables false
set_option linter.unnecessarySimpa false
set_option linter.unusedSimpArgs false
namespace Go.Proofs.YtmnbalbiehlkpaaGreatDoor
open Go.Joins Go.ChangeShapes Go.WideShapes Go.RowKit Go.Deep

section
variable {H : Type} {enc : TypeId × Value → H} {P : Program} {w : World} {base : Nat} {spare : Nat → Bool} {held : Bool}
theorem all_split {a b : List Nat} {p : Nat → Bool} (h : (a ++ b).all p = true) : a.all p = true ∧ b.all p = true := by simpa using h
theorem weightsAll_mem {e : TypeId} {p : Nat → Bool} : ∀ {l : List (DataW H)}, (DataW.weightsAll P e l).all p = true → ∀ d ∈ l, (d.weights P e).all p = true := by
 intro l
 induction l with
 | nil => intro _ d hd; cases hd
 | cons x l ih =>
  intro h d hd
  rw [DataW.weightsAll] at h
  obtain ⟨h1, h2⟩ := all_split h
  rcases List.mem_cons.1 hd with rfl | hd
  ·exact h1
  ·exact ih h2 d hd
theorem plain_at {a : Addr} {v : Value} (h : w.cell? a = some v) : a = ⟨a.block, a.off, none⟩ := by
 unfold World.cell? at h
 split at h
 ·split at h
  ·cases h
  ·rename_i hs
   obtain ⟨b, o, s⟩ := a
   cases s with
   | none => rfl
   | some _ => simp at hs
 ·cases h
theorem sl_of_trod {α : Type} {sz bytes : Nat} {E : World → Nat → Nat → α → Prop} {t e : TypeId} (ht : P.underlying t = some (.slice e)) (hC : P.cellsOf e = sz) (hsz : 0 < sz) (hbt : P.bytesOf e = bytes) (hb1 : 1 ≤ bytes)
  (hel : ∀ (n : Nat) (cs' : List Value) (d : DataW H) (ps : List MemPlace), DataW.trod enc P w base spare held n e cs' = some (d, ps) → cs'.length = sz → (d.weights P e).all (· ≤ reachBytes) = true →
   ∃ y : α, ∀ b o, (∀ j, j < sz → w.cell? ⟨b, o + j, none⟩ = cs'[j]?) → E w b o y)
  {fuel : Nat} {v : Value} {x : DataW H × List MemPlace} (h : DataW.trod enc P w base spare held fuel t [v] = some x) (hw : (x.1.weights P t).all (· ≤ reachBytes) = true) : ∃ l : List α, Sl sz E w v l := by
 rcases open_slice ht h with ⟨hv, _⟩ | ⟨a, len, cap, m, n, D, Pl, hcs, hb, hl, hm, hmm, hx, hi⟩
 ·obtain rfl : v = .slice none 0 0 := by simpa using hv
  exact ⟨[], Sl.nil w⟩
 ·obtain rfl : v = .slice (some a) len cap := by simpa using hcs
  subst hx
  have hlm : len ≤ m := by rw [hmm]; split <;> omega
  simp only [DataW.weights, ht, List.all_cons, Bool.and_eq_true, decide_eq_true_eq, List.length_map, List.length_range] at hw
  obtain ⟨hw1, hw2⟩ := hw
  obtain ⟨hw2, hw3⟩ := all_split hw2
  have hlb : len ≤ 281474976710656 := by
   rw [hbt] at hw1
   have h1 : len + (m - len) ≤ (len + (m - len)) * bytes := Nat.le_mul_of_pos_right _ hb1
   have h2 : reachBytes = 140737488351232 := rfl
   omega
  have hD : ∀ i, i < len → ((D i).weights P e).all (· ≤ reachBytes) = true := fun i hi' => weightsAll_mem hw2 _ (List.mem_map.2 ⟨i, List.mem_range.2 hi', rfl⟩)
  have key : ∀ i : Fin len, ∃ y : α, ∀ b o, (∀ j, j < sz → w.cell? ⟨b, o + j, none⟩ = w.cell? (a.add (i.1 * sz + j))) → E w b o y := fun i => by
   obtain ⟨cs', hc, htr⟩ := hi i.1 (by omega)
   rw [hC] at hc
   obtain ⟨_, hcl, hat⟩ := World.cells?_some hc
   obtain ⟨y, hy⟩ := hel n cs' _ _ htr hcl (hD i.1 i.2)
   refine ⟨y, fun b o hbo => hy b o fun j hj => ?_⟩
   rw [hbo j hj, ← hat j hj, add_add]
  let f : Fin len → α := fun i => Classical.choose (key i)
  have hf : ∀ i : Fin len, ∀ b o, (∀ j, j < sz → w.cell? ⟨b, o + j, none⟩ = w.cell? (a.add (i.1 * sz + j))) → E w b o (f i) := fun i => Classical.choose_spec (key i)
  refine ⟨(List.finRange len).map f, some a, cap, by simp, by simp; omega, by simpa using hlb, (fun h => by cases h), fun i x hxi => ?_⟩
  rw [List.getElem?_map, Option.map_eq_some_iff] at hxi
  obtain ⟨i', hi', rfl⟩ := hxi
  have hil : i < len := by have := (List.getElem?_eq_some_iff.1 hi').1; simpa using this
  obtain rfl : i' = ⟨i, hil⟩ := by
   have := (List.getElem?_eq_some_iff.1 hi').2
   simpa using this.symm
  have hpl : a = ⟨a.block, a.off, none⟩ := by
   obtain ⟨cs', hc, _⟩ := hi 0 (by omega)
   rw [hC] at hc
   obtain ⟨_, hcl, hat⟩ := World.cells?_some hc
   have h0 := hat 0 hsz
   rw [Nat.zero_mul] at h0
   have he : (a.add 0).add 0 = a := by simp [Addr.add]
   rw [he] at h0
   exact plain_at (v := cs'[0]'(by omega)) (by rw [h0]; exact List.getElem?_eq_getElem (by omega))
  refine ⟨a.block, a.off, by rw [← hpl], hf ⟨i, hil⟩ _ _ fun j hj => ?_⟩
  have : a.add (i * sz + j) = ⟨a.block, a.off + (i * sz + j), none⟩ := by rw [hpl]; exact add_plain _ _ _
  rw [this, Nat.add_assoc]
end

section
variable {H : Type} {enc : TypeId × Value → H} {w : World} {base : Nat} {spare : Nat → Bool} {held : Bool}
theorem wf_i64 {z : Int} (h : (Lit.int .i64 z).wf = true) : I64 z := by
 have : -9223372036854775808 ≤ z ∧ z ≤ 9223372036854775807 := by simpa [Lit.wf, IntKind.min, IntKind.max, IntKind.signed, IntKind.bits] using h
 exact this
set_option maxRecDepth 100000 in
theorem isDefs_of_trod {fuel : Nat} {v : Value} {x : DataW H × List MemPlace} (h : DataW.trod enc Tryz.prog w base spare held fuel 22 [v] = some x) (hw : (x.1.weights Tryz.prog 22).all (· ≤ reachBytes) = true) : ∃ l, IsDefs w v l :=
 sl_of_trod (sz := 4) (bytes := 40) Tryz.underlying22 (by kernel_rfl) (by decide) (by kernel_rfl) (by decide) (fun n cs' d ps ht hl hwd => by
  obtain ⟨xs, n', _, hx, _, hxl, hf⟩ := DataW.trod_struct Tryz.underlying100 ht
  match cs', hl with
  | [c0, c1, c2, c3], _ =>
   match xs, hxl with
   | [y0, y1, y2, y3], _ =>
    have k9 : Tryz.prog.cellsOf 9 = 1 := by kernel_rfl
    have k3 : Tryz.prog.cellsOf 3 = 1 := by kernel_rfl
    have h0 := hf 0 _ rfl
    have h1 := hf 1 _ rfl
    have h2 := hf 2 _ rfl
    have h3 := hf 3 _ rfl
    simp only [k9, k3, List.drop_zero, List.drop_succ_cons, List.take_succ_cons, List.take_zero, List.getElem?_cons_zero, List.getElem?_cons_succ] at h0 h1 h2 h3
    obtain ⟨s, e0, f0, _⟩ := DataW.trod_string Tryz.underlying9 h0
    obtain ⟨z1, e1, f1, w1⟩ := DataW.trod_int Tryz.underlying3 h1
    obtain ⟨z2, e2, f2, w2⟩ := DataW.trod_int Tryz.underlying3 h2
    obtain ⟨z3, e3, f3, w3⟩ := DataW.trod_int Tryz.underlying3 h3
    obtain rfl : c0 = .string s := by simpa [k9] using e0
    obtain rfl : c1 = .int .i64 z1 := by simpa [k3] using e1
    obtain rfl : c2 = .int .i64 z2 := by simpa [k3] using e2
    obtain rfl : c3 = .int .i64 z3 := by simpa [k3] using e3
    have hd : d = .agg [.lit (.string s.data.toList), .lit (.int .i64 z1), .lit (.int .i64 z2), .lit (.int .i64 z3)] := by
     have := congrArg Prod.fst hx
     simpa [f0, f1, f2, f3] using this
    subst hd
    have hs : s.size ≤ 140737488355328 := by
     simp [DataW.weights, DataW.weightsEach, Tryz.underlying100] at hwd
     have h2 : reachBytes = 140737488351232 := rfl
     have h3 : s.data.toList.length = s.size := by simp
     simp at h3 hwd
     omega
    exact ⟨⟨s, z1, z2, z3⟩, fun b o hc => ⟨⟨by simpa using hc 0 (by decide), by simpa using hc 1 (by decide), by simpa using hc 2 (by decide), by simpa using hc 3 (by decide)⟩, ⟨hs, wf_i64 w1, wf_i64 w2, wf_i64 w3⟩⟩⟩) h hw
end
end Go.Proofs.YtmnbalbiehlkpaaGreatDoor


set_option linter.unusedVariables false
set_option linter.unnecessarySimpa false
set_option linter.unusedSimpArgs false
namespace Go.Proofs.YtmnbalbiehlkpaaGreatDoor
open Go.RowKit Go.Lib Go.ChangeShapes

theorem es_star : "*" ++ "errors.errorString" = "*errors.errorString" := by decide
theorem row_es (u : TypeId) (h : Tryz.prog.typeName? 3 u = some "*errors.errorString") : u = 344 :=
 typeName_ptr_named (nm := "errors.errorString") (by rw [es_star]; kernel_rfl) (by kernel_rfl) (by decide) u (by rw [es_star]; exact h)
theorem plainH : (Rows.symRunsRow.laid.all fun x => x.2.handleName?.isNone) = true := by kernel_rfl
theorem own : ownKnob Tryz.prog.godebug = none := by kernel_rfl
theorem laidOut : laidOutB Tryz.prog = true := by kernel_rfl
theorem none_of_laid {W : World} (h : laidMet Tryz.prog Rows.symRunsRow.laid W) : NoneV W := by
 obtain ⟨g, t, cs, fuel, p, h1, h2, h3, h4⟩ := Lib.laidMet.reads (n := "slotcode/prog.none") (d := Rows.laid_slotcode_prog_none) h (by simp [Rows.symRunsRow])
 obtain rfl : g = 0 := by
  have : Tryz.prog.globalNamed "slotcode/prog.none" = some 0 := by kernel_rfl
  rw [this] at h1; exact (Option.some.inj h1).symm
 obtain rfl : t = 146 := by
  have : (Tryz.prog.globals[0]?).map (·.type) = some 146 := by kernel_rfl
  rw [this] at h2; exact (Option.some.inj h2).symm
 have e := Lib.ints_of_struct (k := .i64) (zs := [0, 0]) Tryz.underlying146 (by
  intro i f hf
  match i with
  | 0 => obtain rfl := Option.some.inj hf; exact ⟨by kernel_rfl, rfl, by kernel_rfl⟩
  | 1 => obtain rfl := Option.some.inj hf; exact ⟨by kernel_rfl, rfl, by kernel_rfl⟩
  | n + 2 => cases hf) (by kernel_rfl) h4
 have hk : cs = #[.int .i64 0, .int .i64 0] := by
  apply Array.ext'
  simpa using e
 subst hk
 exact ⟨World.var?_cell h1 h3 0, World.var?_cell h1 h3 1⟩
theorem props_of_laid {W : World} (h : laidMet Tryz.prog Rows.symRunsRow.laid W) : Lib.TabIs Tryz.prog W "unicode.properties" .u8 Lib.propertiesTab := by
 have h6 := h.tail.tail.tail.tail.tail.tail
 have e : (Rows.laid_unicode_properties : DataW Unit) = Lib.tabData .u8 Lib.propertiesTab := by kernel_rfl
 rw [e] at h6
 exact Lib.tabIs_of_head (n := 256) (g := 4) (t := 326) (e := 5) (by kernel_rfl) (by kernel_rfl) (by kernel_rfl) (by kernel_rfl) (by kernel_rfl) (by kernel_rfl) h6
theorem glob_of_laid {W : World} (h : laidMet Tryz.prog Rows.symRunsRow.laid W) : Glob W := by
 have h3 := h.tail.tail.tail
 have h4 := h3.tail
 refine ⟨props_of_laid h, ?_, ?_⟩
 ·obtain ⟨a, s, h1, _⟩ := laid_sentinel (g := 6) (ti := 307) (tp := 344) (te := 346) (ts := 9) h4
   (by kernel_rfl) (by kernel_rfl) Tryz.underlying307 row_es Tryz.underlying344 Tryz.underlying346 rfl rfl Tryz.underlying9 (by kernel_rfl) (by kernel_rfl)
  exact ⟨_, .inr ⟨_, _, rfl⟩, by have h0 := World.var?_cell (P := Tryz.prog) (g := 6) (by kernel_rfl) h1 0; simpa using h0⟩
 ·obtain ⟨a, s, h1, _⟩ := laid_sentinel (g := 7) (ti := 307) (tp := 344) (te := 346) (ts := 9) h3
   (by kernel_rfl) (by kernel_rfl) Tryz.underlying307 row_es Tryz.underlying344 Tryz.underlying346 rfl rfl Tryz.underlying9 (by kernel_rfl) (by kernel_rfl)
  exact ⟨_, .inr ⟨_, _, rfl⟩, by have h0 := World.var?_cell (P := Tryz.prog) (g := 7) (by kernel_rfl) h1 0; simpa using h0⟩
end Go.Proofs.YtmnbalbiehlkpaaGreatDoor


set_option linter.unusedVariables false
set_option linter.unusedSimpArgs false
namespace Go.Proofs.YtmnbalbiehlkpaaGreatDoor
open Go.RowKit Go.Lib Go.ChangeShapes

theorem wid_of_laid {W : World} (h : laidMet Tryz.prog Rows.symRunsRow.laid W) : WidN W := by
 have h7 := h.tail.tail.tail.tail.tail.tail.tail
 have e : (Rows.laid_slotcode_num_widths : DataW Unit) = Lib.tabData .i64 [8, 16, 32, 64] := by rfl
 rw [e] at h7
 have t : Lib.TabIs Tryz.prog W "slotcode/num.widths" .i64 [8, 16, 32, 64] := Lib.tabIs_of_head (n := 4) (g := 2) (t := 273) (e := 3) (by kernel_rfl) (by kernel_rfl) (by kernel_rfl) (by kernel_rfl) (by kernel_rfl) (by kernel_rfl) h7
 have hg : Tryz.prog.globalNamed "slotcode/num.widths" = some 2 := by kernel_rfl
 exact ⟨World.var?_cell hg t 0, World.var?_cell hg t 1, World.var?_cell hg t 2, World.var?_cell hg t 3⟩
set_option maxRecDepth 100000 in
theorem ops_of_laid {W : World} (h : laidMet Tryz.prog Rows.symRunsRow.laid W) : OpsN W := by
 obtain ⟨g, t, cs, fuel, p, h1, h2, h3, h4⟩ := Lib.laidMet.reads (n := "slotcode/ops.none") (d := Rows.laid_slotcode_ops_none) h (by simp [Rows.symRunsRow])
 obtain rfl : g = 1 := by
  have : Tryz.prog.globalNamed "slotcode/ops.none" = some 1 := by kernel_rfl
  rw [this] at h1; exact (Option.some.inj h1).symm
 obtain rfl : t = 190 := by
  have : (Tryz.prog.globals[1]?).map (·.type) = some 190 := by kernel_rfl
  rw [this] at h2; exact (Option.some.inj h2).symm
 obtain ⟨xs, n', _, hx, hl, hxl, hf⟩ := DataW.trod_struct Tryz.underlying190 h4
 have k7 : Tryz.prog.cellsOf 190 = 7 := by kernel_rfl
 rw [k7] at hl
 obtain ⟨l⟩ := cs
 match l, hl with
 | [c0, c1, c2, c3, c4, c5, c6], _ =>
  match xs, hxl with
  | [y0, y1, y2, y3, y4, y5, y6], _ =>
   have k9 : Tryz.prog.cellsOf 9 = 1 := by kernel_rfl
   have k3 : Tryz.prog.cellsOf 3 = 1 := by kernel_rfl
   have k5 : Tryz.prog.cellsOf 5 = 1 := by kernel_rfl
   have e := congrArg Prod.fst hx
   simp only [Rows.laid_slotcode_ops_none, List.map_cons, List.map_nil, DataW.agg.injEq, List.cons.injEq, and_true] at e
   obtain ⟨q0, q1, q2, q3, q4, q5, q6⟩ := e
   obtain ⟨s, e0, f0, _⟩ := DataW.trod_string Tryz.underlying9 (hf 0 _ rfl)
   obtain ⟨z1, e1, f1, _⟩ := DataW.trod_int Tryz.underlying3 (hf 1 _ rfl)
   obtain ⟨z2, e2, f2, _⟩ := DataW.trod_int Tryz.underlying3 (hf 2 _ rfl)
   obtain ⟨z3, e3, f3, _⟩ := DataW.trod_int Tryz.underlying5 (hf 3 _ rfl)
   obtain ⟨z4, e4, f4, _⟩ := DataW.trod_int Tryz.underlying3 (hf 4 _ rfl)
   obtain ⟨z5, e5, f5, _⟩ := DataW.trod_int Tryz.underlying3 (hf 5 _ rfl)
   obtain ⟨z6, e6, f6, _⟩ := DataW.trod_int Tryz.underlying3 (hf 6 _ rfl)
   subst f0 f1 f2 f3 f4 f5 f6
   obtain rfl : c0 = .string s := by simpa [k9] using e0
   obtain rfl : c1 = .int .i64 z1 := by simpa [k3] using e1
   obtain rfl : c2 = .int .i64 z2 := by simpa [k3] using e2
   obtain rfl : c3 = .int .u8 z3 := by simpa [k5] using e3
   obtain rfl : c4 = .int .i64 z4 := by simpa [k3] using e4
   obtain rfl : c5 = .int .i64 z5 := by simpa [k3] using e5
   obtain rfl : c6 = .int .i64 z6 := by simpa [k3] using e6
   simp only [DataW.lit.injEq, Lit.int.injEq, Lit.string.injEq, true_and] at q0 q1 q2 q3 q4 q5 q6
   subst q1 q2 q3 q4 q5 q6
   have hs : s = ⟨#[]⟩ := by
    apply ByteArray.ext
    apply Array.ext'
    simpa using q0.symm
   subst hs
   exact ⟨World.var?_cell h1 h3 0, World.var?_cell h1 h3 1, World.var?_cell h1 h3 2, World.var?_cell h1 h3 3, World.var?_cell h1 h3 4, World.var?_cell h1 h3 5, World.var?_cell h1 h3 6⟩
end Go.Proofs.YtmnbalbiehlkpaaGreatDoor


set_option linter.unusedVariables false
set_option linter.unnecessarySimpa false
set_option linter.unusedSimpArgs false
namespace Go.Proofs.YtmnbalbiehlkpaaGreatDoor
open Go.Joins Go.ChangeShapes Go.WideShapes Go.RowKit Go.Deep

section
variable {H : Type} {enc : TypeId × Value → H} {w : World} {base : Nat} {spare : Nat → Bool} {held : Bool}
theorem str_weight {s : ByteArray} (h : ((DataW.lit (.string s.data.toList) : DataW H).weights Tryz.prog 9).all (· ≤ reachBytes) = true) : s.size ≤ 140737488355328 := by
 simp [DataW.weights, Tryz.underlying9] at h
 have h2 : reachBytes = 140737488351232 := rfl
 have h3 : s.data.toList.length = s.size := by simp
 simp at h3 h
 omega
theorem isStrs_of_trod {fuel : Nat} {v : Value} {x : DataW H × List MemPlace} (h : DataW.trod enc Tryz.prog w base spare held fuel 51 [v] = some x) (hw : (x.1.weights Tryz.prog 51).all (· ≤ reachBytes) = true) : ∃ l, IsStrs w v l :=
 sl_of_trod (sz := 1) (bytes := 16) Tryz.underlying51 (by kernel_rfl) (by decide) (by kernel_rfl) (by decide) (fun n cs' d ps ht hl hwd => by
  obtain ⟨s, rfl, hd, _⟩ := DataW.trod_string Tryz.underlying9 ht
  have hd' : d = .lit (.string s.data.toList) := congrArg Prod.fst hd
  subst hd'
  exact ⟨s, fun b o hc => ⟨by simpa using hc 0 (by decide), str_weight hwd⟩⟩) h hw
set_option maxRecDepth 100000 in
theorem isStmts_of_trod {fuel : Nat} {v : Value} {x : DataW H × List MemPlace} (h : DataW.trod enc Tryz.prog w base spare held fuel 23 [v] = some x) (hw : (x.1.weights Tryz.prog 23).all (· ≤ reachBytes) = true) : ∃ l, IsStmts w v l :=
 sl_of_trod (sz := 9) (bytes := 104) Tryz.underlying23 (by kernel_rfl) (by decide) (by kernel_rfl) (by decide) (fun n cs' d ps ht hl hwd => by
  obtain ⟨xs, n', _, hx, _, hxl, hf⟩ := DataW.trod_struct Tryz.underlying55 ht
  match cs', hl with
  | [c0, c1, c2, c3, c4, c5, c6, c7, c8], _ =>
   match xs, hxl with
   | [y0, y1, y2, y3], _ =>
    have k1 : Tryz.prog.cellsOf 51 = 1 := by kernel_rfl
    have k6 : Tryz.prog.cellsOf 53 = 6 := by kernel_rfl
    have k9 : Tryz.prog.cellsOf 9 = 1 := by kernel_rfl
    have k3 : Tryz.prog.cellsOf 3 = 1 := by kernel_rfl
    have k4 : Tryz.prog.cellsOf 4 = 1 := by kernel_rfl
    have k2 : Tryz.prog.cellsOf 2 = 1 := by kernel_rfl
    have h0 := hf 0 _ rfl
    have h1 : DataW.trod enc Tryz.prog w base spare held n' 53 [c1, c2, c3, c4, c5, c6] = some y1 := by
     have h : DataW.trod enc Tryz.prog w base spare held n' 53 (List.take (Tryz.prog.cellsOf 53) (List.drop 1 [c0, c1, c2, c3, c4, c5, c6, c7, c8])) = some y1 := hf 1 _ rfl
     rw [k6] at h
     exact h
    have h2 := hf 2 _ rfl
    have h3 := hf 3 _ rfl
    simp only [k1, k9, List.drop_zero, List.drop_succ_cons, List.take_succ_cons, List.take_zero, List.getElem?_cons_zero, List.getElem?_cons_succ] at h0 h2 h3
    obtain ⟨xs1, n1, _, hx1, _, hxl1, hf1⟩ := DataW.trod_struct Tryz.underlying53 h1
    match xs1, hxl1 with
    | [z0, z1, z2, z3, z4, z5], _ =>
     have g0 := hf1 0 _ rfl
     have g1 := hf1 1 _ rfl
     have g2 := hf1 2 _ rfl
     have g3 := hf1 3 _ rfl
     have g4 := hf1 4 _ rfl
     have g5 := hf1 5 _ rfl
     simp only [k3, k4, k2, List.drop_zero, List.drop_succ_cons, List.take_succ_cons, List.take_zero, List.getElem?_cons_zero, List.getElem?_cons_succ] at g0 g1 g2 g3 g4 g5
     obtain ⟨i0, e0, f0, u0⟩ := DataW.trod_int Tryz.underlying3 g0
     obtain ⟨i1, e1, f1⟩ := DataW.trod_bool Tryz.underlying4 g1
     obtain ⟨i2, e2, f2, u2⟩ := DataW.trod_int Tryz.underlying3 g2
     obtain ⟨i3, e3, f3, u3⟩ := DataW.trod_int Tryz.underlying3 g3
     obtain ⟨i4, e4, f4, u4⟩ := DataW.trod_int Tryz.underlying3 g4
     obtain ⟨i5, e5, f5, u5⟩ := DataW.trod_int Tryz.underlying2 g5
     obtain ⟨s6, e6, f6, _⟩ := DataW.trod_string Tryz.underlying9 h2
     obtain ⟨s7, e7, f7, _⟩ := DataW.trod_string Tryz.underlying9 h3
     obtain rfl : c1 = .int .i64 i0 := by simpa [k3] using e0
     obtain rfl : c2 = .bool i1 := by simpa [k4] using e1
     obtain rfl : c3 = .int .i64 i2 := by simpa [k3] using e2
     obtain rfl : c4 = .int .i64 i3 := by simpa [k3] using e3
     obtain rfl : c5 = .int .i64 i4 := by simpa [k3] using e4
     obtain rfl : c6 = .int .i64 i5 := by simpa [k2] using e5
     obtain rfl : c7 = .string s6 := by simpa [k9] using e6
     obtain rfl : c8 = .string s7 := by simpa [k9] using e7
     have hd : d = .agg [y0.1, y1.1, .lit (.string s6.data.toList), .lit (.string s7.data.toList)] := by
      have := congrArg Prod.fst hx
      simpa [f6, f7] using this
     subst hd
     clear g0 g1 g2 g3 g4 g5 h1 h2 h3 hf hf1 hx hx1 hxl1 e0 e1 e2 e3 e4 e5 e6 e7 f0 f1 f2 f3 f4 f5 f6 f7 ht
     generalize hd6 : (DataW.lit (.string s6.data.toList) : DataW H) = d6 at hwd
     generalize hd7 : (DataW.lit (.string s7.data.toList) : DataW H) = d7 at hwd
     simp only [DataW.weights, DataW.weightsEach, Tryz.underlying55, List.map_cons, List.map_nil] at hwd
     obtain ⟨w0, hwd⟩ := all_split hwd
     obtain ⟨-, hwd⟩ := all_split hwd
     obtain ⟨w6, hwd⟩ := all_split hwd
     obtain ⟨w7, -⟩ := all_split hwd
     subst hd6 hd7
     obtain ⟨ls, hls⟩ := isStrs_of_trod h0 w0
     exact ⟨⟨ls, ⟨i0, i1, i2, i3, i4, i5⟩, s6, s7⟩, fun b o hc => ⟨c0, by simpa using hc 0 (by decide), hls, ⟨by simpa using hc 1 (by decide), by simpa using hc 2 (by decide), by simpa using hc 3 (by decide), by simpa using hc 4 (by decide), by simpa using hc 5 (by decide), by simpa using hc 6 (by decide)⟩,
      ⟨wf_i64 u0, wf_i64 u2, wf_i64 u3, wf_i64 u4, wf_i64 u5⟩, ⟨by simpa using hc 7 (by decide), str_weight w6⟩, by simpa using hc 8 (by decide), str_weight w7⟩⟩) h hw
set_option maxRecDepth 100000 in
theorem isPr_of_trod {base' : Nat} {v : Value} {d : DataW H} {p : List MemPlace} (hv : Value.okWide Tryz.prog w .any base' 25 v) (h : DataW.Trod enc Tryz.prog w base spare held 25 v d p) (hw : (d.weights Tryz.prog 25).all (· ≤ reachBytes) = true) : ∃ o, IsPr w v o := by
 obtain ⟨v0, v1, y0, y1, n, rfl, rfl, _, h0, h1⟩ := open_agg2 Tryz.underlying25 (by kernel_rfl) (by kernel_rfl) hv h
 simp only [DataW.weights, DataW.weightsEach, Tryz.underlying25, List.map_cons, List.map_nil] at hw
 obtain ⟨w0, hw⟩ := all_split hw
 obtain ⟨w1, hw⟩ := all_split hw
 obtain ⟨l0, k0⟩ := isDefs_of_trod h0 w0
 obtain ⟨l1, k1⟩ := isStmts_of_trod h1 w1
 exact ⟨⟨l0, l1⟩, _, _, rfl, k0, k1⟩
end
end Go.Proofs.YtmnbalbiehlkpaaGreatDoor


set_option linter.unusedVariables false
namespace Go.Proofs.YtmnbalbiehlkpaaGreatDoor
set_option maxRecDepth 100000
theorem p_lay : laidOutB Tryz.pinned.checked.prog = true := by kernel_rfl
theorem p_mr : mapsRowed Tryz.pinned.checked.prog = true := by kernel_rfl
theorem p_pk : (Rows.symRunsRow.plainKeys == Tryz.pinned.checked.prog.plainKeys) = true := by kernel_rfl
theorem p_sh : Tryz.pinned.checked.prog.stopsHeard = true := by kernel_rfl
theorem p_me : Tryz.pinned.checked.prog.mayEnter = true := by kernel_rfl
theorem p_lf : (Rows.symRunsRow.lifted == Tryz.pinned.checked.prog.liftsFinal) = true := by kernel_rfl
theorem p_mk : (Tryz.pinned.checked.prog.make == some Rows.symRunsRow.make) = true := by kernel_rfl
end Go.Proofs.YtmnbalbiehlkpaaGreatDoor
