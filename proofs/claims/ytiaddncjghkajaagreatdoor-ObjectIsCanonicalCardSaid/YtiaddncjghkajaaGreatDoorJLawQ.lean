/- The statement ObjectParses, walked. -/
import Derived.Test.YtiaddncjghkajaaGreatDoorJLawA
import Derived.Test.YtiaddncjghkajaaGreatDoorJLawP
import Derived.Test.YtiaddncjghkajaaGreatDoorJRefPar
set_option linter.unusedVariables false
set_option linter.unusedSimpArgs false
namespace Go.Proofs.YtiaddncjghkajaaGreatDoor
open Go.RowKit Go.Lib

theorem pack_big (o : Ob) : 16 * o.maps.length ≤ (packOf o).length ∧ 8 * o.rels.length ≤ (packOf o).length := by
  have h := boxOf_length (secsOf o)
  have e : (packOf o).length = (boxOf (secsOf o)).length := rfl
  rw [← e] at h
  unfold secSize secsOf at h
  simp only [List.map_cons, List.map_nil, List.sum_cons, List.sum_nil, List.length_cons, List.length_nil, b4_length, defN_length, symN_length, offsOf_length, relN_length, tabOf_length] at h
  unfold up at h
  omega
theorem pa_big (b : List Int) : 16 * (paOut b).maps.length ≤ b.length ∧ 8 * (paOut b).rels.length ≤ b.length := by
  by_cases h : paOk b
  · obtain ⟨h1, h2, h3, h4, h5, h6, h7⟩ := id h
    have : paOut b = obOf (rdOut b) := by unfold paOut; rw [if_pos h]
    rw [this]
    have := pack_big (obOf (rdOut b))
    rwa [h7] at this
  · rw [(no_pa h).2]; simp [obNil]
set_option maxRecDepth 40000 in
set_option maxHeartbeats 4000000 in
theorem objectParses_any (v : Value) (b : List Int) (w : World) (h : IsB w v b) (hG : Glob w) (hN : NoneV w) :
    Calls Tryz.prog 5 #[v] w fun e w' => e = .returned (.bool true) ∧ Ext w w' := by
  obtain ⟨A, c, rfl, -, hbl, hv⟩ := h.form
  have hbyt := IsB.byt hv
  have CA := hx (fun (W : World) (hW : Ext w W) => alive_any W (hG.ext hW) (hN.ext hW))
  obtain ⟨n, hn⟩ : ∃ n, n = b.length := ⟨_, rfl⟩
  rw [← hn] at hbl hv ⊢
  by_cases hl : n ≤ 6000
  · have d1 : decide ((n : Int) > 6000) = false := decide_eq_false (by omega)
    have hbig := pa_big b
    obtain ⟨O, hO⟩ : ∃ O, O = paOut b := ⟨_, rfl⟩
    obtain ⟨E, hE⟩ : ∃ E, E = paErr b := ⟨_, rfl⟩
    obtain ⟨T, hT⟩ : ∃ T, T = paB b := ⟨_, rfl⟩
    rw [← hO] at hbig
    obtain ⟨n1, hn1⟩ : ∃ n, n = O.maps.length := ⟨_, rfl⟩
    obtain ⟨n2, hn2⟩ : ∃ n, n = O.code.length := ⟨_, rfl⟩
    obtain ⟨n3, hn3⟩ : ∃ n, n = O.rels.length := ⟨_, rfl⟩
    have CC := hx ((cloneB_any _ b w hv (by omega)).mono (R' := fun e w' => ∃ v1, e = .returned v1 ∧ IsB w' v1 b ∧ Ext w w') fun e w' ⟨v1, h1, h2, h3⟩ => ⟨v1, h1, h2.read hbyt (by omega), h3⟩)
    have CP := hx (fun (W : World) (hW : Ext w W) (v : Value) (ho : IsB W v b) => (object_Parse_any v b W ho (by omega) (hG.ext hW) (hN.ext hW)).mono (R' := fun e w' => ∃ A1 c1 A2 c2 A3 c3, e = .returned (.tuple #[.agg #[.slice A1 n1 c1, .slice A2 n2 c2, .slice A3 n3 c3], .int .i64 E]) ∧ ObV w' A1 c1 A2 c2 A3 c3 n1 n2 n3 O ∧ Ext W w') fun e w' ⟨v', h1, h2, h3⟩ => by
      rw [← hO] at h2
      obtain ⟨A1, c1, A2, c2, A3, c3, rfl, h⟩ := isOb_form h2
      rw [← hn1, ← hn2, ← hn3] at h h1
      exact ⟨A1, c1, A2, c2, A3, c3, by rw [h1, hE], h, h3⟩)
    have CR := hx (fun (W : World) (v : Value) (ho : IsB W v b) => (ref16_Parse_any v b W ho (by omega)).mono (R' := fun e w' => ∃ A1 c1 A2 c2 A3 c3, e = .returned (.tuple #[.agg #[.slice A1 n1 c1, .slice A2 n2 c2, .slice A3 n3 c3], .bool T]) ∧ ObV w' A1 c1 A2 c2 A3 c3 n1 n2 n3 O ∧ Ext W w') fun e w' ⟨v', h1, h2, h3⟩ => by
      rw [← hO] at h2
      obtain ⟨A1, c1, A2, c2, A3, c3, rfl, h⟩ := isOb_form h2
      rw [← hn1, ← hn2, ← hn3] at h h1
      exact ⟨A1, c1, A2, c2, A3, c3, by rw [h1, hT], h, h3⟩)
    have CS := hx (fun (W : World) (va vb : Value) (ha : IsOb W va O) (hb : IsOb W vb O) => ref13_Same_eq va vb O W ha hb (by omega) (by omega))
    have hcase : (E = 0 ∧ T = true) ∨ (E = 19 ∧ T = false ∧ O = obNil ∧ n1 = 0 ∧ n2 = 0 ∧ n3 = 0) := by
      by_cases hp : paOk b
      · left; exact ⟨by rw [hE]; exact if_pos hp, by rw [hT]; exact decide_eq_true hp⟩
      · right
        have hq := no_pa hp
        have hO' : O = obNil := hO.trans hq.2
        refine ⟨by rw [hE]; exact if_neg hp, hT.trans hq.1, hO', ?_, ?_, ?_⟩
        · rw [hn1, hO']; rfl
        · rw [hn2, hO']; rfl
        · rw [hn3, hO']; rfl
    clear hO hE hT hn1 hn2 hn3 hbig hG hN hn h
    rcases hcase with ⟨rfl, rfl⟩ | ⟨rfl, rfl, rfl, rfl, rfl, rfl⟩
    · go_enter Tryz.func5, Tryz.ntmps5
      go_wp2_with fail
      refine CC.out.mono ?_
      rintro e w1 ⟨v1, rfl, i1, e1⟩
      go_wp2_with fail
      refine (CP.out w1 e1 _ i1).mono ?_
      rintro e w2 ⟨A1, c1, A2, c2, A3, c3, rfl, i2, e2⟩
      go_wp2_with fail
      obtain ⟨W3, hW3⟩ : ∃ W3, W3 = w2.alloc (.cells #[.slice A1 n1 c1, .slice A2 n2 c2, .slice A3 n3 c3] 26) := ⟨_, rfl⟩
      have x3 : Ext w2 W3 := by rw [hW3]; exact Ext.new _ _
      have r3 : RowO W3 w2.heap.size (.slice A1 n1 c1) (.slice A2 n2 c2) (.slice A3 n3 c3) := by rw [hW3]; exact rowO_new _ _ _ _
      rw [← hW3]
      clear hW3
      have E3 := (e1.trans e2).trans x3
      refine (CR.out W3 _ (IsB.ext hv E3)).mono ?_
      rintro e w4 ⟨B1, b1, B2, b2, B3, b3, rfl, i4, e4⟩
      have f4 := e4.alloc (.cells #[.slice B1 n1 b1, .slice B2 n2 b2, .slice B3 n3 b3] 26)
      have s3 := r3.ext f4
      have s4 := rowO_new w4 (.slice B1 n1 b1) (.slice B2 n2 b2) (.slice B3 n3 b3)
      have E4 := E3.trans f4
      have i24 := IsOb.ext i2 (x3.trans f4)
      have i44 := IsOb.ext i4 (Ext.new w4 (.cells #[.slice B1 n1 b1, .slice B2 n2 b2, .slice B3 n3 b3] 26))
      have j1 := IsB.ext i1 ((e2.trans x3).trans f4)
      have j0 := IsB.ext hv E4
      obtain ⟨W4, hW4⟩ : ∃ W4, W4 = w4.alloc (.cells #[.slice B1 n1 b1, .slice B2 n2 b2, .slice B3 n3 b3] 26) := ⟨_, rfl⟩
      rw [← hW4] at s3 s4 E4 i24 i44 j1 j0
      have CA4 := CA.out W4 E4
      rw [hW4] at CA4
      have HW4 := hx hW4
      clear hW4 i2 i4 r3 e1 e2 x3 e4 f4 E3 i1
      go_wp2_with (first
        | (go_at_call 14; refine CA4.mono ?_; rintro e w5 ⟨rfl, e5⟩; rw [← HW4.out] at e5; have k0 := e5.cell s3.c0; have k1 := e5.cell s3.c1; have k2 := e5.cell s3.c2; have l0 := e5.cell s4.c0; have l1 := e5.cell s4.c1; have l2 := e5.cell s4.c2)
        | (go_at_call 24; refine (CS.out w5 _ _ (IsOb.ext i24 e5) (IsOb.ext i44 e5)).mono ?_; rintro e w6 ⟨rfl, e6⟩)
        | (go_at_call 19; refine (sameB_eq _ _ b w6 (IsB.ext j0 (e5.trans e6)) (IsB.ext j1 (e5.trans e6))).mono ?_; rintro e w7 ⟨rfl, e7⟩))
      go_ret
      exact ⟨ret_bool (by simp), E4.trans (e5.trans (e6.trans e7))⟩
    · go_enter Tryz.func5, Tryz.ntmps5
      go_wp2_with fail
      refine CC.out.mono ?_
      rintro e w1 ⟨v1, rfl, i1, e1⟩
      go_wp2_with fail
      refine (CP.out w1 e1 _ i1).mono ?_
      rintro e w2 ⟨A1, c1, A2, c2, A3, c3, rfl, i2, e2⟩
      go_wp2_with fail
      obtain ⟨W3, hW3⟩ : ∃ W3, W3 = w2.alloc (.cells #[.slice A1 0 c1, .slice A2 0 c2, .slice A3 0 c3] 26) := ⟨_, rfl⟩
      have x3 : Ext w2 W3 := by rw [hW3]; exact Ext.new _ _
      have r3 : RowO W3 w2.heap.size (.slice A1 0 c1) (.slice A2 0 c2) (.slice A3 0 c3) := by rw [hW3]; exact rowO_new _ _ _ _
      rw [← hW3]
      clear hW3
      have E3 := (e1.trans e2).trans x3
      refine (CR.out W3 _ (IsB.ext hv E3)).mono ?_
      rintro e w4 ⟨B1, b1, B2, b2, B3, b3, rfl, i4, e4⟩
      have f4 := e4.alloc (.cells #[.slice B1 0 b1, .slice B2 0 b2, .slice B3 0 b3] 26)
      have s3 := r3.ext f4
      have E4 := E3.trans f4
      have i24 := IsOb.ext i2 (x3.trans f4)
      have j1 := IsB.ext i1 ((e2.trans x3).trans f4)
      have j0 := IsB.ext hv E4
      obtain ⟨W4, hW4⟩ : ∃ W4, W4 = w4.alloc (.cells #[.slice B1 0 b1, .slice B2 0 b2, .slice B3 0 b3] 26) := ⟨_, rfl⟩
      rw [← hW4] at s3 E4 i24 j1 j0
      have CA4 := CA.out W4 E4
      rw [hW4] at CA4
      have HW4 := hx hW4
      clear hW4 i2 i4 r3 e1 e2 x3 e4 f4 E3 i1
      go_wp2_with (first
        | (go_at_call 14; refine CA4.mono ?_; rintro e w5 ⟨rfl, e5⟩; rw [← HW4.out] at e5; have k0 := e5.cell s3.c0; have k1 := e5.cell s3.c1; have k2 := e5.cell s3.c2)
        | (go_at_call 24; refine (CS.out w5 _ _ (IsOb.ext i24 e5) (isOb_nil w5)).mono ?_; rintro e w6 ⟨rfl, e6⟩)
        | (go_at_call 19; refine (sameB_eq _ _ b w6 (IsB.ext j0 (e5.trans e6)) (IsB.ext j1 (e5.trans e6))).mono ?_; rintro e w7 ⟨rfl, e7⟩))
      go_ret
      exact ⟨ret_bool (by simp), E4.trans (e5.trans (e6.trans e7))⟩
  · have d1 : decide ((n : Int) > 6000) = true := decide_eq_true (by omega)
    clear hG hN hn h
    go_enter Tryz.func5, Tryz.ntmps5
    go_wp2_with (first
      | (go_at_call 14; refine (CA.out _ (Ext.refl w)).mono ?_; rintro e w2 ⟨rfl, e2⟩))
    go_ret
    exact ⟨rfl, e2⟩
end Go.Proofs.YtiaddncjghkajaaGreatDoor
