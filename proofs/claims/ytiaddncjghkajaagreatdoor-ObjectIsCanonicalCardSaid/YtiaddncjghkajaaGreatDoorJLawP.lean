/- The statement ObjectPacks, walked. -/
import Derived.Test.YtiaddncjghkajaaGreatDoorJLawA
set_option linter.unusedVariables false
set_option linter.unusedSimpArgs false
namespace Go.Proofs.YtiaddncjghkajaaGreatDoor
open Go.RowKit Go.Lib

theorem sameB_eq (va vb : Value) (a : List Int) (w : World) (ha : IsB w va a) (hb : IsB w vb a) :
    Calls Tryz.prog 19 #[va, vb] w fun e w' => e = .returned (.bool true) ∧ Ext w w' :=
  (sameB_any va vb a a w ha hb).mono fun e w' ⟨h1, h2⟩ => ⟨by rw [h1]; simp, h2⟩
set_option maxRecDepth 40000 in
set_option maxHeartbeats 4000000 in
theorem objectPacks_any (v : Value) (o : Ob) (w : World) (h : IsOb w v o) (hG : Glob w) (hN : NoneV w) :
    Calls Tryz.prog 4 #[v] w fun e w' => e = .returned (.bool true) ∧ Ext w w' := by
  obtain ⟨A1, c1, A2, c2, A3, c3, rfl, h'⟩ := isOb_form h
  obtain ⟨W0, hW0⟩ : ∃ W0, W0 = w.alloc (.cells #[.slice A1 o.maps.length c1, .slice A2 o.code.length c2, .slice A3 o.rels.length c3] 26) := ⟨_, rfl⟩
  have e0 : Ext w W0 := by rw [hW0]; exact Ext.new _ _
  have r0 : RowO W0 w.heap.size (.slice A1 o.maps.length c1) (.slice A2 o.code.length c2) (.slice A3 o.rels.length c3) := by rw [hW0]; exact rowO_new _ _ _ _
  have hF := Few_any _ o W0 (h'.ext e0)
  obtain ⟨L, hL⟩ : ∃ L, L = pkOut o := ⟨_, rfl⟩
  obtain ⟨n, hn⟩ : ∃ n, n = L.length := ⟨_, rfl⟩
  have CA := hx (fun (W : World) (hW : Ext w W) => alive_any W (hG.ext hW) (hN.ext hW))
  have CP := hx (fun (W : World) (hW : Ext w W) (hm : o.maps.length ≤ 100000) (hr : o.rels.length ≤ 1000000) => (object_Pack_any _ o W (h'.ext hW) hm hr (hG.ext hW) (hN.ext hW)).mono (R' := fun e w' => ∃ A c, e = .returned (.tuple #[.slice A n c, .int .i64 (obE o)]) ∧ IsB w' (.slice A n c) L ∧ Ext W w') fun e w' ⟨v', h1, h2, h3⟩ => by
    rw [← hL] at h2
    obtain ⟨A, c, rfl, -, -, h2'⟩ := h2.form
    rw [← hn] at h1 h2'
    exact ⟨A, c, h1, h2', h3⟩)
  have CC := hx (fun (W : World) (hW : Ext w W) (hm : o.maps.length ≤ 100000) (hr : o.rels.length ≤ 1000000) => ref16_Check_any _ o W (h'.ext hW) hm hr)
  have CZ := hx (fun (W : World) (hW : Ext w W) (hm : o.maps.length ≤ 100000) (hr : o.rels.length ≤ 1000000) => (object_Size_any _ o W (h'.ext hW) hm hr (hG.ext hW) (hN.ext hW)).mono (R' := fun e w' => e = .returned (.int .i64 n) ∧ Ext W w') fun e w' ⟨h1, h2⟩ => ⟨by rw [h1, ← hL, ← hn], h2⟩)
  have CR := hx (fun (W : World) (hW : Ext w W) (hE : obE o = 0) (hr : o.rels.length ≤ 1000000) => (ref16_Pack_any _ o W (h'.ext hW) hE hr).mono (R' := fun e w' => ∃ A c, e = .returned (.slice A n c) ∧ IsB w' (.slice A n c) L ∧ Ext W w') fun e w' ⟨v', h1, h2, h3⟩ => by
    have h4 : packOf o = L := by rw [hL]; unfold pkOut; rw [if_pos hE]
    rw [h4] at h2
    obtain ⟨A, c, rfl, -, -, h2'⟩ := h2.form
    rw [← hn] at h1 h2'
    exact ⟨A, c, h1, h2', h3⟩)
  rw [hW0] at hF
  have HW0 := hx hW0
  have HL : obE o ≠ 0 → n = 0 := fun hE => by rw [hn, hL]; unfold pkOut; rw [if_neg hE]; rfl
  clear hW0 h h' hG hN hL hn
  rcases fewI_val o.maps.length o.code.length o.rels.length with hf | hf
  · rw [hf] at hF
    clear hf
    go_enter Tryz.func4, Tryz.ntmps4
    go_wp2_with (first
      | (go_at_call 13; refine hF.mono ?_; rintro e w1 ⟨rfl, e1⟩; rw [← HW0.out] at e1)
      | (go_at_call 14; refine (CA.out _ (e0.trans e1)).mono ?_; rintro e w2 ⟨rfl, e2⟩))
    go_ret
    exact ⟨rfl, (e0.trans e1).trans e2⟩
  · have hb := fewI_one (n1 := o.maps.length) (n2 := o.code.length) (n3 := o.rels.length) (by rw [hf]; decide)
    obtain ⟨hb1, hb2, hb3⟩ := hb
    rw [hf] at hF
    have CP2 := hx (fun W hW => CP.out W hW (by omega) (by omega))
    have CC2 := hx (fun W hW => CC.out W hW (by omega) (by omega))
    have CZ2 := hx (fun W hW => CZ.out W hW (by omega) (by omega))
    have CR2 := hx (fun W hW hE => CR.out W hW hE (by omega))
    clear hf hb1 hb2 hb3 CP CC CZ CR
    generalize obE o = E at *
    by_cases hE : E = 0
    · subst hE
      have CR3 := hx (fun W hW => CR2.out W hW rfl)
      have hq : ((n : Int) == (n : Int)) = true := by simp
      clear HL CR2
      go_enter Tryz.func4, Tryz.ntmps4
      go_wp2_with (first
        | (go_at_call 13; refine hF.mono ?_; rintro e w1 ⟨rfl, e1⟩; rw [← HW0.out] at e1; have k0 := (r0.ext e1).c0; have k1 := (r0.ext e1).c1; have k2 := (r0.ext e1).c2)
        | (go_at_call 17; refine (CP2.out _ (e0.trans e1)).mono ?_; rintro e w2 ⟨A, c, rfl, ib, e2⟩; replace k0 := e2.cell k0; replace k1 := e2.cell k1; replace k2 := e2.cell k2)
        | (go_at_call 16; refine (CC2.out _ ((e0.trans e1).trans e2)).mono ?_; rintro e w3 ⟨rfl, e3⟩; replace k0 := e3.cell k0; replace k1 := e3.cell k1; replace k2 := e3.cell k2))
      have E1 := (e0.trans e1).trans (e2.trans e3)
      replace ib := IsB.ext ib e3
      clear r0 e0 e1 e2 e3 hF HW0
      go_wp2_with (first
          | (go_at_call 14; refine (CA.out _ E1).mono ?_; rintro e w4 ⟨rfl, e4⟩; have f4 : Ext w3 w4 := e4; have g4 := E1.trans f4; replace k0 := e4.cell k0; replace k1 := e4.cell k1; replace k2 := e4.cell k2)
          | (go_at_call 20; refine (CR3.out _ g4).mono ?_; rintro e w5 ⟨B, b, rfl, jb, e5⟩; have f5 : Ext w3 w5 := f4.trans e5; have g5 := E1.trans f5; replace k0 := e5.cell k0; replace k1 := e5.cell k1; replace k2 := e5.cell k2)
          | (go_at_call 19; refine (sameB_eq _ _ _ _ (IsB.ext ib f5) jb).mono ?_; rintro e w6 ⟨rfl, e6⟩; have f6 : Ext w3 w6 := f5.trans e6; have g6 := E1.trans f6; replace k0 := e6.cell k0; replace k1 := e6.cell k1; replace k2 := e6.cell k2)
          | (go_at_call 18; refine (CZ2.out _ g6).mono ?_; rintro e w7 ⟨rfl, e7⟩; have f7 : Ext w3 w7 := f6.trans e7; have g7 := E1.trans f7))
      go_wp2
      go_ret
      exact ⟨ret_bool (by simp), g7⟩
    · have hn := HL hE
      subst hn
      have hne : (E != 0) = true := by simpa using hE
      have hq : (E == E) = true := by simp
      clear HL CR2
      go_enter Tryz.func4, Tryz.ntmps4
      go_wp2_with (first
        | (go_at_call 13; refine hF.mono ?_; rintro e w1 ⟨rfl, e1⟩; rw [← HW0.out] at e1; have k0 := (r0.ext e1).c0; have k1 := (r0.ext e1).c1; have k2 := (r0.ext e1).c2)
        | (go_at_call 17; refine (CP2.out _ (e0.trans e1)).mono ?_; rintro e w2 ⟨A, c, rfl, ib, e2⟩; replace k0 := e2.cell k0; replace k1 := e2.cell k1; replace k2 := e2.cell k2)
        | (go_at_call 16; refine (CC2.out _ ((e0.trans e1).trans e2)).mono ?_; rintro e w3 ⟨rfl, e3⟩; replace k0 := e3.cell k0; replace k1 := e3.cell k1; replace k2 := e3.cell k2))
      have E1 := (e0.trans e1).trans (e2.trans e3)
      clear r0 e0 e1 e2 e3 hF HW0
      go_wp2_with (first
          | (go_at_call 14; refine (CA.out _ E1).mono ?_; rintro e w4 ⟨rfl, e4⟩; have f4 : Ext w3 w4 := e4; have g4 := E1.trans f4; replace k0 := e4.cell k0; replace k1 := e4.cell k1; replace k2 := e4.cell k2)
          | (go_at_call 18; refine (CZ2.out _ g4).mono ?_; rintro e w5 ⟨rfl, e5⟩; have f5 : Ext w3 w5 := f4.trans e5; have g5 := E1.trans f5))
      go_wp2
      go_ret
      exact ⟨ret_bool (by simp), g5⟩
end Go.Proofs.YtiaddncjghkajaaGreatDoor
