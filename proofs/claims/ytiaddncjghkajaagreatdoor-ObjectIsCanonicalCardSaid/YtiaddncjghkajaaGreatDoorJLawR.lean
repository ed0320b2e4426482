/- The statement ObjectIsCanonical, walked. -/
import Derived.Test.YtiaddncjghkajaaGreatDoorJLawA
import Derived.Test.YtiaddncjghkajaaGreatDoorJLawQ
set_option linter.unusedVariables false
set_option linter.unusedSimpArgs false
namespace Go.Proofs.YtiaddncjghkajaaGreatDoor
open Go.RowKit Go.Lib

theorem secs_cells {w : World} {A : Option Addr} {m c : Nat} {o : Ob} (h : IsSecs w (.slice A m c) (secsOf o)) : ∃ sb so A0 n0 c0, A = some ⟨sb, so, none⟩ ∧ w.cell? ⟨sb, so + 1, none⟩ = some (.slice A0 n0 c0) ∧ IsB w (.slice A0 n0 c0) o.code ∧
    ∀ k : Nat, k < 5 → ∃ A' n' c', w.cell? ⟨sb, so + k * 2, none⟩ = some (.int .i64 ((k : Int) + 1)) ∧ w.cell? ⟨sb, so + k * 2 + 1, none⟩ = some (.slice A' n' c') := by
  obtain ⟨A, c', e, -, -, -, h4⟩ := h
  obtain ⟨rfl, -, rfl⟩ : _ ∧ _ ∧ _ := by simpa using e
  obtain ⟨sb, so, rfl, ⟨h1, -⟩, v, h2, h3⟩ := h4 0 _ rfl
  obtain ⟨A0, c0, rfl, -, -, h3'⟩ := h3.form
  refine ⟨sb, so, A0, _, c0, rfl, by simpa using h2, h3', fun k hk => ?_⟩
  have hs : ∃ s : Sec, (secsOf o)[k]? = some s ∧ s.kind = (k : Int) + 1 := by
    match k, hk with
    | 0, _ => exact ⟨_, rfl, rfl⟩
    | 1, _ => exact ⟨_, rfl, rfl⟩
    | 2, _ => exact ⟨_, rfl, rfl⟩
    | 3, _ => exact ⟨_, rfl, rfl⟩
    | 4, _ => exact ⟨_, rfl, rfl⟩
  obtain ⟨s, hs, hkk⟩ := hs
  obtain ⟨b, o', e', ⟨g1, -⟩, v, g2, g3⟩ := h4 k s hs
  obtain ⟨rfl, rfl⟩ : _ ∧ _ := by simpa using e'
  obtain ⟨A', c', rfl, -, -, -⟩ := g3.form
  exact ⟨A', _, c', by rw [g1, hkk], g2⟩
set_option maxRecDepth 40000 in
set_option maxHeartbeats 4000000 in
theorem objectIsCanonical_any (v : Value) (b : List Int) (w : World) (h : IsB w v b) (hG : Glob w) (hN : NoneV w) :
    Calls Tryz.prog 6 #[v] w fun e w' => e = .returned (.bool true) ∧ Ext w w' := by
  obtain ⟨A, c, rfl, -, hbl, hv⟩ := h.form
  have CA := hx (fun (W : World) (hW : Ext w W) => alive_any W (hG.ext hW) (hN.ext hW))
  obtain ⟨n, hn⟩ : ∃ n, n = b.length := ⟨_, rfl⟩
  rw [← hn] at hbl hv ⊢
  by_cases hl : n ≤ 6000
  · have d1 : decide ((n : Int) > 6000) = false := decide_eq_false (by omega)
    have hbig := pa_big b
    obtain ⟨O, hO⟩ : ∃ O, O = paOut b := ⟨_, rfl⟩
    obtain ⟨E, hE⟩ : ∃ E, E = paErr b := ⟨_, rfl⟩
    rw [← hO] at hbig
    obtain ⟨n1, hn1⟩ : ∃ n, n = O.maps.length := ⟨_, rfl⟩
    obtain ⟨n2, hn2⟩ : ∃ n, n = O.code.length := ⟨_, rfl⟩
    obtain ⟨n3, hn3⟩ : ∃ n, n = O.rels.length := ⟨_, rfl⟩
    have CP := hx ((object_Parse_any _ b w hv (by omega) hG hN).mono (R' := fun e w' => ∃ A1 c1 A2 c2 A3 c3, e = .returned (.tuple #[.agg #[.slice A1 n1 c1, .slice A2 n2 c2, .slice A3 n3 c3], .int .i64 E]) ∧ ObV w' A1 c1 A2 c2 A3 c3 n1 n2 n3 O ∧ Ext w w') fun e w' ⟨v', h1, h2, h3⟩ => by
      rw [← hO] at h2
      obtain ⟨A1, c1, A2, c2, A3, c3, rfl, h⟩ := isOb_form h2
      rw [← hn1, ← hn2, ← hn3] at h h1
      exact ⟨A1, c1, A2, c2, A3, c3, by rw [h1, hE], h, h3⟩)
    by_cases hp : paOk b
    · have hE0 : E = 0 := by rw [hE]; exact if_pos hp
      have hrd : rdOut b = secsOf O := by rw [hO]; exact pa_secs hp
      have hre : rdErr b = 0 := if_pos hp.1
      have hob : obOf (rdOut b) = O := by rw [hO]; unfold paOut; rw [if_pos hp]
      obtain ⟨-, -, -, -, -, p6, p7⟩ := id hp
      rw [hob] at p6 p7
      have hpk : pkOut O = b := by unfold pkOut; rw [if_pos p6, p7]
      obtain ⟨m, hm⟩ : ∃ m, m = 5 := ⟨_, rfl⟩
      have CK := hx (fun (W : World) (hW : Ext w W) (v : Value) (ho : IsOb W v O) => (object_Pack_any v O W ho (by omega) (by omega) (hG.ext hW) (hN.ext hW)).mono (R' := fun e w' => ∃ A c, e = .returned (.tuple #[.slice A n c, .int .i64 0]) ∧ IsB w' (.slice A n c) b ∧ Ext W w') fun e w' ⟨v', h1, h2, h3⟩ => by
        rw [hpk] at h2
        obtain ⟨A, c, rfl, -, -, h2'⟩ := h2.form
        rw [← hn] at h1 h2'
        exact ⟨A, c, by rw [h1, p6], h2', h3⟩)
      have CD := hx (fun (W : World) (hW : Ext w W) => (box_Read_any _ b W (IsB.ext hv hW) (by omega)).mono (R' := fun e w' => ∃ A c, e = .returned (.tuple #[.slice A m c, .int .i64 0]) ∧ IsSecs w' (.slice A m c) (secsOf O) ∧ Ext W w') fun e w' ⟨v', h1, h2, h3⟩ => by
        rw [hrd] at h2
        obtain ⟨A, c, rfl, -, -, h2'⟩ := h2.form
        have e5 : (secsOf O).length = m := hm.symm
        rw [e5] at h1 h2'
        exact ⟨A, c, by rw [h1, hre], h2', h3⟩)
      subst hE0
      have HM := hx hm
      have d5 : ((m : Int) != 5) = false := by rw [hm]; rfl
      have m0 : 0 < m := by omega
      have m1 : (0 : Int) < (m : Int) := by omega
      clear hE hO hrd hre hob hpk p6 p7 hm hp hn1 hn2 hn3 hbig hG hN hn h
      go_enter Tryz.func6, Tryz.ntmps6
      go_wp2_with fail
      refine CP.out.mono ?_
      rintro e w1 ⟨A1, c1, A2, c2, A3, c3, rfl, i1, e1⟩
      obtain ⟨W2, hW2⟩ : ∃ W2, W2 = w1.alloc (.cells #[.slice A1 n1 c1, .slice A2 n2 c2, .slice A3 n3 c3] 26) := ⟨_, rfl⟩
      have x2 : Ext w1 W2 := by rw [hW2]; exact Ext.new _ _
      have r2 : RowO W2 w1.heap.size (.slice A1 n1 c1) (.slice A2 n2 c2) (.slice A3 n3 c3) := by rw [hW2]; exact rowO_new _ _ _ _
      have E2 := e1.trans x2
      have i2 := IsOb.ext i1 x2
      have CK2 := CK.out W2 E2 _ i2
      rw [hW2] at CK2
      have HW2 := hx hW2
      clear i1 hW2
      go_wp2_with (first
        | (go_at_call 17; refine CK2.mono ?_; rintro e w3 ⟨A4, c4, rfl, i3, e3⟩; rw [← HW2.out] at e3)
        | (go_at_call 25; refine (CD.out w3 (E2.trans e3)).mono ?_; rintro e w4 ⟨As, cs, rfl, i4, e4⟩))
      obtain ⟨sb, so, A0, n0, c0, rfl, s1, s0, sk⟩ := secs_cells i4
      have E4 := (E2.trans e3).trans e4
      have k1 := ((r2.ext e3).ext e4).c1
      have j3 := IsB.ext i3 e4
      have jv := IsB.ext hv E4
      obtain ⟨y1, y2, y3, ey, -, jc, -⟩ := IsOb.ext i2 (e3.trans e4)
      obtain ⟨-, rfl, -⟩ : _ ∧ _ ∧ _ := by simpa using ey
      clear CK2 i2 i3 i4 r2 ey e1 e3 e4 x2 E2 HW2
      go_loopw [42] (fun i wr => ∃ k : Nat, k ≤ m ∧ i = .int .i64 (k : Nat) ∧ Ext w4 wr) (fun i _ => m - (RowKit.intOf i).toNat)
      case atStart => exact ⟨0, by omega, rfl, Ext.refl _⟩
      case round =>
        obtain ⟨k, hkm, rfl, er⟩ := hrel
        by_cases hk : k < m
        · obtain ⟨A', n', c', t1, t2⟩ := sk k (by have := HM.out; omega)
          replace t1 := er.cell t1
          replace t2 := er.cell t2
          have hk5 : (k : Int) < 5 := by have := HM.out; omega
          have hki : (k : Int) < (m : Int) := by omega
          have hk0 : (0 : Int) ≤ (k : Int) := by omega
          have dk : decide ((k : Int) < (m : Int)) = true := decide_eq_true hki
          have hq : ((k : Int) + 1 != (k : Int) + 1) = false := by simp
          go_wp2
          go_roundw
          case rel => exact ⟨k + 1, by omega, by simp, er.alloc _⟩
          case measure => simp [RowKit.intOf]; omega
        · obtain rfl : k = m := by omega
          have dk : decide ((k : Int) < (k : Int)) = false := by simp
          have k1r := er.cell k1
          have s1r := er.cell s1
          have Er := E4.trans er
          have Ed := Er.drew
          have xd : Ext w4 wr.drew := er.drew
          have yd : Ext wr wr.drew := (Ext.refl wr).drew
          go_wp2
          go_region_held3 (fun w' => w'.cell? ⟨w1.heap.size, 1, none⟩ = some (.slice A2 n2 c2) ∧ w'.cell? ⟨sb, so + 1, none⟩ = some (.slice A0 n0 c0)) (first | exact ⟨k1r, s1r⟩ | exact ⟨Ext.cell (by assumption) k1r, Ext.cell (by assumption) s1r⟩)
            (first
              | (go_at_call 14; refine (CA.out _ Ed).mono ?_; rintro e w5 ⟨rfl, e5⟩; have f5 : Ext wr w5 := yd.trans e5; have g5 := er.trans f5)
              | (go_at_call 19; refine (sameB_eq _ _ _ w6 (IsB.ext s0 g6) (IsB.ext jc g6)).mono ?_; rintro e w7 ⟨rfl, e7⟩; have f7 : Ext wr w7 := f6.trans e7; have g7 := er.trans f7)
              | (go_at_call 19; refine (sameB_eq _ _ b w5 (IsB.ext jv g5) (IsB.ext j3 g5)).mono ?_; rintro e w6 ⟨rfl, e6⟩; have f6 : Ext wr w6 := f5.trans e6; have g6 := er.trans f6))
          go_wp2
          go_ret
          exact ⟨ret_bool (by simp), E4.trans g7⟩
    · have hE0 : E = 19 := by rw [hE]; exact if_neg hp
      subst hE0
      clear hE hO hp hn1 hn2 hn3 hbig hG hN hn h
      go_enter Tryz.func6, Tryz.ntmps6
      go_wp2_with fail
      refine CP.out.mono ?_
      rintro e w1 ⟨A1, c1, A2, c2, A3, c3, rfl, i1, e1⟩
      have E2 := e1.alloc (.cells #[.slice A1 n1 c1, .slice A2 n2 c2, .slice A3 n3 c3] 26)
      go_wp2_with (first
        | (go_at_call 14; refine (CA.out _ E2).mono ?_; rintro e w2 ⟨rfl, e2⟩))
      go_ret
      exact ⟨ret_bool (by simp), E2.trans e2⟩
  · have d1 : decide ((n : Int) > 6000) = true := decide_eq_true (by omega)
    clear hG hN hn h
    go_enter Tryz.func6, Tryz.ntmps6
    go_wp2_with (first
      | (go_at_call 14; refine (CA.out _ (Ext.refl w)).mono ?_; rintro e w2 ⟨rfl, e2⟩))
    go_ret
    exact ⟨rfl, e2⟩
end Go.Proofs.YtiaddncjghkajaaGreatDoor
