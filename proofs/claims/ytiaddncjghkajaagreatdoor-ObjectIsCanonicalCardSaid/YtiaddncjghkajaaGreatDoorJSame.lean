/- The reference of layer 13: Same, at objects that are the same. -/
import Derived.Test.YtiaddncjghkajaaGreatDoorJOPar
import Derived.Test.YtiaddncjghkajaaGreatDoorJRefP
set_option linter.unusedVariables false
set_option linter.unusedSimpArgs false
namespace Go.Proofs.YtiaddncjghkajaaGreatDoor
open Go.RowKit Go.Lib

set_option maxRecDepth 40000 in
set_option maxHeartbeats 4000000 in
theorem ref13_Same_eq (va vb : Value) (o : Ob) (w : World) (ha : IsOb w va o) (hb : IsOb w vb o) (hm : o.maps.length ≤ 1000000) (hr : o.rels.length ≤ 1000000) :
    Calls Tryz.prog 24 #[va, vb] w fun e w' => e = .returned (.bool true) ∧ Ext w w' := by
  obtain ⟨v1, v2, v3, rfl, d1, d2, d3⟩ := ha
  obtain ⟨A1, c1, rfl, -, -, d1'⟩ := d1.form
  obtain ⟨A2, c2, rfl, -, hcl, d2'⟩ := d2.form
  obtain ⟨A3, c3, rfl, -, -, d3'⟩ := d3.form
  obtain ⟨u1, u2, u3, rfl, f1, f2, f3⟩ := hb
  obtain ⟨B1, n1, rfl, -, -, f1'⟩ := f1.form
  obtain ⟨B2, n2, rfl, -, hcl2, f2'⟩ := f2.form
  obtain ⟨B3, n3, rfl, -, -, f3'⟩ := f3.form
  obtain ⟨W0, hW0⟩ : ∃ W0, W0 = (w.alloc (.cells #[.slice A1 o.maps.length c1, .slice A2 o.code.length c2, .slice A3 o.rels.length c3] 26)).alloc (.cells #[.slice B1 o.maps.length n1, .slice B2 o.code.length n2, .slice B3 o.rels.length n3] 26) := ⟨_, rfl⟩
  have e0 : Ext w W0 := by rw [hW0]; exact (Ext.new _ _).alloc _
  have r1 : RowO W0 w.heap.size (.slice A1 o.maps.length c1) (.slice A2 o.code.length c2) (.slice A3 o.rels.length c3) := by rw [hW0]; exact (rowO_new w _ _ _).ext (Ext.new _ _)
  have r2 : RowO W0 (w.heap.size + 1) (.slice B1 o.maps.length n1) (.slice B2 o.code.length n2) (.slice B3 o.rels.length n3) := by
    rw [hW0]
    have h := rowO_new (w.alloc (.cells #[.slice A1 o.maps.length c1, .slice A2 o.code.length c2, .slice A3 o.rels.length c3] 26)) (.slice B1 o.maps.length n1) (.slice B2 o.code.length n2) (.slice B3 o.rels.length n3)
    rwa [World.size_alloc] at h
  have hS := sameB_any _ _ o.code o.code W0 (IsB.ext d2' e0) (IsB.ext f2' e0)
  rw [decide_eq_true rfl] at hS
  rw [hW0] at hS
  have HW0 := hx hW0
  clear hW0 d1 d2 d3 f1 f2 f3
  go_enter Tryz.func24, Tryz.ntmps24
  go_wp2_with (first | (go_at_call 19; refine hS.mono ?_; rintro e w1 ⟨rfl, e1⟩; rw [← HW0.out] at e1; have x1 := r1.ext e1; have x2 := r2.ext e1; have a0 := x1.c0; have a2 := x1.c2; have b0 := x2.c0; have b2 := x2.c2))
  clear hS
  have ew1 := e0.trans e1
  clear e1 a0 a2 b0 b2
  go_loopw [5] (fun i wr => ∃ (pre suf : List Def), o.maps = pre ++ suf ∧ i = .int .i64 (pre.length : Nat) ∧ Ext w1 wr) (fun i _ => o.maps.length - (RowKit.intOf i).toNat)
  case atStart => exact ⟨[], o.maps, rfl, rfl, Ext.refl _⟩
  case round =>
    obtain ⟨pre, suf, hl', rfl, he⟩ := hrel
    have hpl : pre.length ≤ 1000000 := by have := congrArg List.length hl'; simp at this; omega
    have ew := ew1.trans he
    have y1 := x1.ext he
    have y2 := x2.ext he
    have a0 := y1.c0
    have b0 := y2.c0
    cases suf with
    | cons x suf =>
      have hlt : pre.length < o.maps.length := by rw [hl']; simp
      have hvx := d1'
      have hvy := f1'
      rw [hl'] at hvx hvy
      obtain ⟨b, o1, rfl, ⟨t1, t2, t3, t4⟩, -⟩ := hvx.at
      obtain ⟨bb, o2, rfl, ⟨s1, s2, s3, s4⟩, -⟩ := hvy.at
      replace t1 := ew.cell t1
      replace t2 := ew.cell t2
      replace t3 := ew.cell t3
      replace t4 := ew.cell t4
      replace s1 := ew.cell s1
      replace s2 := ew.cell s2
      replace s3 := ew.cell s3
      replace s4 := ew.cell s4
      have HL := hx hl'; clear hl' hvx hvy
      have j0 : (0 : Int) ≤ (pre.length : Int) := by omega
      have j1 : (pre.length : Int) < (o.maps.length : Int) := by omega
      have ed := he.drew
      go_wp2
      go_region
      go_wp2
      go_roundw
      case rel => exact ⟨pre ++ [x], suf, by simp [HL.out], by simp, ed⟩
      case measure => simp [RowKit.intOf]; omega
    | nil =>
      obtain rfl : o.maps = pre := by simpa using hl'
      clear hl'
      have hlt : ¬ o.maps.length < o.maps.length := by omega
      go_wp2
      clear a0 b0
      obtain ⟨W6, rfl⟩ : ∃ W6 : World, W6 = wr := ⟨_, rfl⟩
      go_loopw [6] (fun i wr => ∃ (pre suf : List Rel), o.rels = pre ++ suf ∧ i = .int .i64 (pre.length : Nat) ∧ Ext W6 wr) (fun i _ => o.rels.length - (RowKit.intOf i).toNat)
      case atStart => exact ⟨[], o.rels, rfl, rfl, Ext.refl _⟩
      case round =>
        obtain ⟨pre, suf, hl', rfl, he2⟩ := hrel
        have hpl : pre.length ≤ 1000000 := by have := congrArg List.length hl'; simp at this; omega
        have ew2 := ew.trans he2
        have z1 := y1.ext he2
        have z2 := y2.ext he2
        have a2 := z1.c2
        have b2 := z2.c2
        cases suf with
        | cons x suf =>
          have hlt : pre.length < o.rels.length := by rw [hl']; simp
          have hvx := d3'
          have hvy := f3'
          rw [hl'] at hvx hvy
          obtain ⟨b, o1, rfl, ⟨t1, t2⟩, -⟩ := hvx.at
          obtain ⟨bb, o2, rfl, ⟨s1, s2⟩, -⟩ := hvy.at
          replace t1 := ew2.cell t1
          replace t2 := ew2.cell t2
          replace s1 := ew2.cell s1
          replace s2 := ew2.cell s2
          have HL := hx hl'; clear hl' hvx hvy
          have j0 : (0 : Int) ≤ (pre.length : Int) := by omega
          have j1 : (pre.length : Int) < (o.rels.length : Int) := by omega
          have ed := he2.drew
          go_wp2
          go_region
          go_wp2
          go_roundw
          case rel => exact ⟨pre ++ [x], suf, by simp [HL.out], by simp, ed⟩
          case measure => simp [RowKit.intOf]; omega
        | nil =>
          obtain rfl : o.rels = pre := by simpa using hl'
          clear hl'
          have hlt : ¬ o.rels.length < o.rels.length := by omega
          go_wp2
          go_ret
          exact ⟨rfl, ew2⟩
end Go.Proofs.YtiaddncjghkajaaGreatDoor
