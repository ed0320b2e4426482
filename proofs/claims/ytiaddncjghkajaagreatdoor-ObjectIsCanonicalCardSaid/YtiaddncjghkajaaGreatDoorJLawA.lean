/- The statements of layer 16: the chapter's example, in plain numbers. -/
import Derived.Test.YtiaddncjghkajaaGreatDoorJObj
import Derived.Test.YtiaddncjghkajaaGreatDoorJSame
import Derived.Test.YtiaddncjghkajaaGreatDoorJRefO
set_option linter.unusedVariables false
set_option linter.unusedSimpArgs false
namespace Go.Proofs.YtiaddncjghkajaaGreatDoor
open Go.RowKit Go.Lib

def oA : Ob := ⟨[], [149, 0, 0, 0, 0, 0, 0, 0], []⟩
theorem oA_err : obE oA = 0 := by decide +kernel
theorem oA_len : (packOf oA).length = 96 := by decide +kernel
theorem oA_pa : paOk (packOf oA) := by decide +kernel
theorem oA_pk : pkOut oA = packOf oA := by unfold pkOut; rw [if_pos oA_err]
theorem obNil_err : obE obNil = 17 := by decide +kernel
theorem nil_pa : ¬ paOk [] := by decide +kernel
theorem oA_out : paOut (packOf oA) = oA := by
  have h : obOf (rdOut (packOf oA)) = ⟨[], [149, 0, 0, 0, 0, 0, 0, 0], []⟩ := by
    have h1 : (obOf (rdOut (packOf oA))).maps.length = 0 := by decide +kernel
    have h2 : (obOf (rdOut (packOf oA))).code = [149, 0, 0, 0, 0, 0, 0, 0] := by decide +kernel
    have h3 : (obOf (rdOut (packOf oA))).rels.length = 0 := by decide +kernel
    generalize obOf (rdOut (packOf oA)) = O at *
    obtain ⟨m, c, r⟩ := O
    simp only at h1 h2 h3
    rw [List.eq_nil_of_length_eq_zero h1, h2, List.eq_nil_of_length_eq_zero h3]
  unfold paOut
  rw [if_pos oA_pa, h]; rfl
end Go.Proofs.YtiaddncjghkajaaGreatDoor


set_option linter.unusedVariables false
set_option linter.unusedSimpArgs false
namespace Go.Proofs.YtiaddncjghkajaaGreatDoor
open Go.RowKit Go.Lib

theorem isOb_form {w : World} {v : Value} {o : Ob} (h : IsOb w v o) : ∃ A1 c1 A2 c2 A3 c3, v = .agg #[.slice A1 o.maps.length c1, .slice A2 o.code.length c2, .slice A3 o.rels.length c3] ∧ IsOb w (.agg #[.slice A1 o.maps.length c1, .slice A2 o.code.length c2, .slice A3 o.rels.length c3]) o := by
  obtain ⟨v1, v2, v3, rfl, d1, d2, d3⟩ := id h
  obtain ⟨A1, c1, rfl, -⟩ := d1.form
  obtain ⟨A2, c2, rfl, -⟩ := d2.form
  obtain ⟨A3, c3, rfl, -⟩ := d3.form
  exact ⟨A1, c1, A2, c2, A3, c3, rfl, h⟩
/-- An object's three slices. -/
def ObV (w : World) (A1 : Option Addr) (c1 : Nat) (A2 : Option Addr) (c2 : Nat) (A3 : Option Addr) (c3 : Nat) (n1 n2 n3 : Nat) (o : Ob) : Prop := IsOb w (.agg #[.slice A1 n1 c1, .slice A2 n2 c2, .slice A3 n3 c3]) o
set_option maxRecDepth 40000 in
set_option maxHeartbeats 4000000 in
theorem alive_any (w : World) (hG : Glob w) (hN : NoneV w) : Calls Tryz.prog 14 #[] w fun e w' => e = .returned (.bool true) ∧ Ext w w' := by
  obtain ⟨PA, hPA⟩ : ∃ P, P = packOf oA := ⟨_, rfl⟩
  have hPl : PA.length = 96 := by rw [hPA]; exact oA_len
  have CP := hx (fun (W : World) (hW : Ext w W) (v : Value) (ho : IsOb W v oA) => (object_Pack_any v oA W ho (by decide) (by decide) (hG.ext hW) (hN.ext hW)).mono (R' := fun e w' => ∃ A c, e = .returned (.tuple #[.slice A 96 c, .int .i64 0]) ∧ IsB w' (.slice A 96 c) PA ∧ Ext W w') fun e w' ⟨v', h1, h2, h3⟩ => by
    rw [oA_pk, ← hPA] at h2
    obtain ⟨A, c, rfl, -, -, h2'⟩ := h2.form
    rw [hPl] at h1 h2'
    exact ⟨A, c, by rw [h1, oA_err], h2', h3⟩)
  have CR := hx (fun (W : World) (hW : Ext w W) (A : Option Addr) (c : Nat) (ho : IsB W (.slice A 96 c) PA) => (object_Parse_any _ PA W ho (by rw [hPl]; decide) (hG.ext hW) (hN.ext hW)).mono (R' := fun e w' => ∃ A1 c1 A2 c2 A3 c3, e = .returned (.tuple #[.agg #[.slice A1 0 c1, .slice A2 8 c2, .slice A3 0 c3], .int .i64 0]) ∧ ObV w' A1 c1 A2 c2 A3 c3 0 8 0 oA ∧ Ext W w') fun e w' ⟨v', h1, h2, h3⟩ => by
    have hp : paOk PA := by rw [hPA]; exact oA_pa
    have ho' : paOut PA = oA := by rw [hPA]; exact oA_out
    rw [ho'] at h2
    obtain ⟨A1, c1, A2, c2, A3, c3, rfl, h⟩ := isOb_form h2
    exact ⟨A1, c1, A2, c2, A3, c3, by rw [h1]; unfold paErr; rw [if_pos hp]; rfl, h, h3⟩)
  have CN := hx (fun (W : World) (hW : Ext w W) => (object_Parse_any (.slice none 0 0) [] W (Sl.nil _) (by decide) (hG.ext hW) (hN.ext hW)).mono (R' := fun e w' => ∃ A1 c1 A2 c2 A3 c3, e = .returned (.tuple #[.agg #[.slice A1 0 c1, .slice A2 0 c2, .slice A3 0 c3], .int .i64 19]) ∧ Ext W w') fun e w' ⟨v', h1, h2, h3⟩ => by
    have ho' : paOut [] = obNil := by unfold paOut; rw [if_neg nil_pa]
    rw [ho'] at h2
    obtain ⟨A1, c1, A2, c2, A3, c3, rfl, h⟩ := isOb_form h2
    exact ⟨A1, c1, A2, c2, A3, c3, by rw [h1]; unfold paErr; rw [if_neg nil_pa]; rfl, h3⟩)
  have CZ := hx (fun (W : World) (hW : Ext w W) (v : Value) (ho : IsOb W v oA) => (object_Size_any v oA W ho (by decide) (by decide) (hG.ext hW) (hN.ext hW)).mono (R' := fun e w' => e = .returned (.int .i64 96) ∧ Ext W w') fun e w' ⟨h1, h2⟩ => ⟨by rw [h1, oA_pk, oA_len]; rfl, h2⟩)
  have CC := hx (fun (W : World) (hW : Ext w W) => (object_Check_any _ obNil W (isOb_nil W) (by decide) (by decide) (hG.ext hW) (hN.ext hW)).mono (R' := fun e w' => e = .returned (.int .i64 17) ∧ Ext W w') fun e w' ⟨h1, h2⟩ => ⟨by rw [h1, obNil_err], h2⟩)
  have CS := hx (fun (W : World) (va vb : Value) (ha : IsOb W va oA) (hb : IsOb W vb oA) => ref13_Same_eq va vb oA W ha hb (by decide) (by decide))
  clear hG hN hPA hPl
  obtain ⟨W1, hW1⟩ : ∃ W1, W1 = w.alloc (.cells #[.int .u8 149, .int .u8 0, .int .u8 0, .int .u8 0, .int .u8 0, .int .u8 0, .int .u8 0, .int .u8 0] 5) := ⟨_, rfl⟩
  have x1 : Ext w W1 := by rw [hW1]; exact Ext.new _ _
  have hs1 : W1.heap.size = w.heap.size + 1 := by rw [hW1]; simp
  have hrow : RowB W1 w.heap.size [149, 0, 0, 0, 0, 0, 0, 0] := by rw [hW1]; exact heap_alloc_new w _
  obtain ⟨W0, hW0⟩ : ∃ W0, W0 = W1.alloc (.cells #[.slice none 0 0, .slice (some ⟨w.heap.size, 0, none⟩) 8 8, .slice none 0 0] 26) := ⟨_, rfl⟩
  have e0 : Ext w W0 := by rw [hW0]; exact x1.alloc _
  have r0 : RowO W0 (w.heap.size + 1) (.slice none 0 0) (.slice (some ⟨w.heap.size, 0, none⟩) 8 8) (.slice none 0 0) := by
    rw [hW0]
    have h := rowO_new W1 (.slice none 0 0) (.slice (some ⟨w.heap.size, 0, none⟩) 8 8) (.slice none 0 0)
    rwa [hs1] at h
  have iA : IsOb W0 (.agg #[.slice none 0 0, .slice (some ⟨w.heap.size, 0, none⟩) 8 8, .slice none 0 0]) oA := by
    refine ⟨_, _, _, rfl, Sl.nil _, ?_, Sl.nil _⟩
    have h : RowB W0 w.heap.size [149, 0, 0, 0, 0, 0, 0, 0] := hrow.ext (by rw [hW0]; exact Ext.new _ _)
    exact h.read (by intro x hx; simp at hx; omega) rfl (by decide)
  have hP0 := CP.out W0 e0 _ iA
  rw [hW0, hW1] at hP0
  have HW0 := hx hW0
  have HW1 := hx hW1
  clear hW0 hW1 hs1 hrow x1
  go_enter Tryz.func14, Tryz.ntmps14
  go_wp2_with fail
  refine hP0.mono ?_
  rintro e w1 ⟨Ab, cb, rfl, ib, e1⟩
  rw [← HW1.out, ← HW0.out] at e1
  clear hP0
  go_wp2_with fail
  refine (CR.out w1 (e0.trans e1) _ _ ib).mono ?_
  rintro e w2 ⟨A1, c1, A2, c2, A3, c3, rfl, i2, e2⟩
  go_wp2_with fail
  obtain ⟨W3, hW3⟩ : ∃ W3, W3 = w2.alloc (.cells #[.slice A1 0 c1, .slice A2 8 c2, .slice A3 0 c3] 26) := ⟨_, rfl⟩
  have x3 : Ext w2 W3 := by rw [hW3]; exact Ext.new _ _
  have r3 : RowO W3 w2.heap.size (.slice A1 0 c1) (.slice A2 8 c2) (.slice A3 0 c3) := by rw [hW3]; exact rowO_new _ _ _ _
  have E3 := e0.trans ((e1.trans e2).trans x3)
  rw [← hW3]
  clear hW3
  refine (CN.out W3 E3).mono ?_
  rintro e w4 ⟨D1, n1, D2, n2, D3, n3, rfl, e4⟩
  have f4 := e4.alloc (.cells #[.slice D1 0 n1, .slice D2 0 n2, .slice D3 0 n3] 26)
  have s0 := r0.ext (((e1.trans e2).trans x3).trans f4)
  have s3 := r3.ext f4
  have k0 := s0.c0
  have k1 := s0.c1
  have k2 := s0.c2
  have l0 := s3.c0
  have l1 := s3.c1
  have l2 := s3.c2
  have iA4 := iA.ext (((e1.trans e2).trans x3).trans f4)
  have i24 := IsOb.ext i2 (x3.trans f4)
  have E4 := E3.trans f4
  have hS := CS.out _ _ _ iA4 i24
  clear iA i2 r0 r3 e1 e2 x3 e4 ib
  go_wp2_with fail
  refine hS.mono ?_
  rintro e w5 ⟨rfl, e5⟩
  replace k0 := e5.cell k0
  replace k1 := e5.cell k1
  replace k2 := e5.cell k2
  have hZ := CZ.out w5 (E4.trans e5) _ (iA4.ext e5)
  clear l0 l1 l2 hS
  go_wp2_with fail
  refine hZ.mono ?_
  rintro e w6 ⟨rfl, e6⟩
  have hCC := CC.out w6 ((E4.trans e5).trans e6)
  go_wp2_with fail
  refine hCC.mono ?_
  rintro e w7 ⟨rfl, e7⟩
  go_wp2
  go_ret
  exact ⟨rfl, ((E4.trans e5).trans e6).trans e7⟩

def fewI (n1 n2 n3 : Nat) : Int := if n2 > 4000 ∨ n1 > 300 ∨ n3 > 500 then 0 else 1
set_option maxRecDepth 20000 in
set_option maxHeartbeats 1000000 in
theorem Few_any (v : Value) (o : Ob) (w : World) (h : IsOb w v o) :
    Calls Tryz.prog 13 #[v] w fun e w' => e = .returned (.int .i64 (fewI o.maps.length o.code.length o.rels.length)) ∧ Ext w w' := by
  obtain ⟨A1, c1, A2, c2, A3, c3, rfl, h'⟩ := isOb_form h
  obtain ⟨n1, hn1⟩ : ∃ n, n = o.maps.length := ⟨_, rfl⟩
  obtain ⟨n2, hn2⟩ : ∃ n, n = o.code.length := ⟨_, rfl⟩
  obtain ⟨n3, hn3⟩ : ∃ n, n = o.rels.length := ⟨_, rfl⟩
  rw [← hn1, ← hn2, ← hn3]
  have hb : n1 ≤ 281474976710656 ∧ n2 ≤ 281474976710656 ∧ n3 ≤ 281474976710656 := by
    obtain ⟨v1, v2, v3, _, d1, d2, d3⟩ := h'
    exact ⟨by rw [hn1]; exact d1.len, by rw [hn2]; exact d2.len, by rw [hn3]; exact d3.len⟩
  obtain ⟨hb1, hb2, hb3⟩ := hb
  clear hn1 hn2 hn3 h h'
  by_cases b1 : (4000 : Int) < (n2 : Int)
  · have hR := hx (show fewI n1 n2 n3 = 0 from if_pos (by omega))
    go_enter Tryz.func13, Tryz.ntmps13
    go_wp2
    go_ret
    exact ⟨ret_int hR.out.symm, Ext.new _ _⟩
  by_cases b2 : (300 : Int) < (n1 : Int)
  · have hR := hx (show fewI n1 n2 n3 = 0 from if_pos (by omega))
    go_enter Tryz.func13, Tryz.ntmps13
    go_wp2
    go_ret
    exact ⟨ret_int hR.out.symm, Ext.new _ _⟩
  by_cases b3 : (500 : Int) < (n3 : Int)
  · have hR := hx (show fewI n1 n2 n3 = 0 from if_pos (by omega))
    go_enter Tryz.func13, Tryz.ntmps13
    go_wp2
    go_ret
    exact ⟨ret_int hR.out.symm, Ext.new _ _⟩
  · have hR := hx (show fewI n1 n2 n3 = 1 from if_neg (by omega))
    go_enter Tryz.func13, Tryz.ntmps13
    go_wp2
    go_ret
    exact ⟨ret_int hR.out.symm, Ext.new _ _⟩
end Go.Proofs.YtiaddncjghkajaaGreatDoor


set_option linter.unusedVariables false
set_option linter.unusedSimpArgs false
namespace Go.Proofs.YtiaddncjghkajaaGreatDoor
open Go.RowKit Go.Lib

theorem fewI_one {n1 n2 n3 : Nat} (h : fewI n1 n2 n3 ≠ 0) : n2 ≤ 4000 ∧ n1 ≤ 300 ∧ n3 ≤ 500 := by
  unfold fewI at h
  split at h
  · exact absurd rfl h
  · omega
theorem fewI_val (n1 n2 n3 : Nat) : fewI n1 n2 n3 = 0 ∨ fewI n1 n2 n3 = 1 := by unfold fewI; split <;> simp
set_option maxRecDepth 40000 in
set_option maxHeartbeats 4000000 in
theorem objectChecks_any (v : Value) (o : Ob) (w : World) (h : IsOb w v o) (hG : Glob w) (hN : NoneV w) :
    Calls Tryz.prog 3 #[v] w fun e w' => e = .returned (.bool true) ∧ Ext w w' := by
  obtain ⟨A1, c1, A2, c2, A3, c3, rfl, h'⟩ := isOb_form h
  obtain ⟨W0, hW0⟩ : ∃ W0, W0 = w.alloc (.cells #[.slice A1 o.maps.length c1, .slice A2 o.code.length c2, .slice A3 o.rels.length c3] 26) := ⟨_, rfl⟩
  have e0 : Ext w W0 := by rw [hW0]; exact Ext.new _ _
  have r0 : RowO W0 w.heap.size (.slice A1 o.maps.length c1) (.slice A2 o.code.length c2) (.slice A3 o.rels.length c3) := by rw [hW0]; exact rowO_new _ _ _ _
  have hF := Few_any _ o W0 (h'.ext e0)
  have CA := hx (fun (W : World) (hW : Ext w W) => alive_any W (hG.ext hW) (hN.ext hW))
  have CB := hx (fun (W : World) (hW : Ext w W) (hm : o.maps.length ≤ 100000) (hr : o.rels.length ≤ 1000000) => object_Check_any _ o W (h'.ext hW) hm hr (hG.ext hW) (hN.ext hW))
  have CC := hx (fun (W : World) (hW : Ext w W) (hm : o.maps.length ≤ 100000) (hr : o.rels.length ≤ 1000000) => ref16_Check_any _ o W (h'.ext hW) hm hr)
  rw [hW0] at hF
  have HW0 := hx hW0
  clear hW0 h h' hG hN
  rcases fewI_val o.maps.length o.code.length o.rels.length with hf | hf
  · rw [hf] at hF
    clear hf
    go_enter Tryz.func3, Tryz.ntmps3
    go_wp2_with (first
      | (go_at_call 13; refine hF.mono ?_; rintro e w1 ⟨rfl, e1⟩; rw [← HW0.out] at e1)
      | (go_at_call 14; refine (CA.out _ (e0.trans e1)).mono ?_; rintro e w2 ⟨rfl, e2⟩))
    go_ret
    exact ⟨rfl, (e0.trans e1).trans e2⟩
  · have hb := fewI_one (n1 := o.maps.length) (n2 := o.code.length) (n3 := o.rels.length) (by rw [hf]; decide)
    obtain ⟨hb1, hb2, hb3⟩ := hb
    rw [hf] at hF
    have CB2 := hx (fun W hW => CB.out W hW (by omega) (by omega))
    have CC2 := hx (fun W hW => CC.out W hW (by omega) (by omega))
    clear hf hb1 hb2 hb3
    generalize obE o = E at *
    go_enter Tryz.func3, Tryz.ntmps3
    go_wp2_with (first
      | (go_at_call 13; refine hF.mono ?_; rintro e w1 ⟨rfl, e1⟩; rw [← HW0.out] at e1))
    have r1 := r0.ext e1
    have k0 := r1.c0
    have k1 := r1.c1
    have k2 := r1.c2
    have E1 := e0.trans e1
    have Ed : Ext w w1.drew := E1.drew
    have xd : Ext w1 w1.drew := (Ext.refl w1).drew
    go_region_held3 (fun w' => w'.cell? ⟨w.heap.size, 0, none⟩ = some (.slice A1 o.maps.length c1) ∧ w'.cell? ⟨w.heap.size, 1, none⟩ = some (.slice A2 o.code.length c2) ∧ w'.cell? ⟨w.heap.size, 2, none⟩ = some (.slice A3 o.rels.length c3)) (first | exact ⟨k0, k1, k2⟩ | exact ⟨Ext.cell (by assumption) k0, Ext.cell (by assumption) k1, Ext.cell (by assumption) k2⟩)
      (first
        | (go_at_call 14; refine (CA.out _ Ed).mono ?_; rintro e w2 ⟨rfl, e2⟩; have f2 : Ext w1 w2 := xd.trans e2; have g2 := E1.trans f2)
        | (go_at_call 15; refine (CB2.out _ g2).mono ?_; rintro e w3 ⟨rfl, e3⟩; have f3 : Ext w1 w3 := f2.trans e3; have g3 := E1.trans f3)
        | (go_at_call 16; refine (CC2.out _ g3).mono ?_; rintro e w4 ⟨rfl, e4⟩; have f4 : Ext w1 w4 := f3.trans e4; have g4 := E1.trans f4))
    go_wp2
    go_ret
    exact ⟨ret_bool (by simp), g4⟩
end Go.Proofs.YtiaddncjghkajaaGreatDoor
