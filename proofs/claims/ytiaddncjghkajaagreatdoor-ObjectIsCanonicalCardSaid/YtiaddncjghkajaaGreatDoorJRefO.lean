/- The layer object: names and four of the reference. -/
import Derived.Test.YtiaddncjghkajaaGreatDoorJPack
import Derived.Deep.QuietTactic
import Derived.BigQuiet
set_option linter.unusedVariables false
set_option linter.unusedSimpArgs false
namespace Go.Proofs.YtiaddncjghkajaaGreatDoor
open Go.RowKit Go.Lib

set_option maxRecDepth 20000 in
set_option maxHeartbeats 2000000 in
theorem ref16_names_any (v : Value) (o : Ob) (w : World) (h : IsOb w v o) (hm : o.maps.length ≤ 100000) :
    Calls Tryz.prog 45 #[v] w fun e w' => ∃ v', e = .returned v' ∧ IsStrs w' v' (namesOf o) ∧ Ext w w' := by
  obtain ⟨v1, v2, v3, rfl, d1, d2, d3⟩ := h
  obtain ⟨A1, c1, rfl, -, -, d1'⟩ := d1.form
  obtain ⟨A2, c2, rfl, -, -, -⟩ := d2.form
  obtain ⟨A3, c3, rfl, -, -, -⟩ := d3.form
  obtain ⟨W0, hW0⟩ : ∃ W0, W0 = w.alloc (.cells #[.slice A1 o.maps.length c1, .slice A2 o.code.length c2, .slice A3 o.rels.length c3] 26) := ⟨_, rfl⟩
  have e0 : Ext w W0 := by rw [hW0]; exact Ext.new _ _
  have p1 : W0.cell? ⟨w.heap.size, 0, none⟩ = some (.slice A1 o.maps.length c1) := by rw [hW0]; simp
  have HW0 := hx hW0
  clear hW0 d1 d2 d3
  go_enter Tryz.func45, Tryz.ntmps45
  go_wp2
  rw [← HW0.out]
  go_loopw [4, 3] (fun i u wr => ∃ (pre suf : List Def) (ns : List ByteArray), o.maps = pre ++ suf ∧ i = .int .i64 (pre.length : Nat) ∧ ns = pre.map (·.name) ∧ ns.length = pre.length ∧ OwnS wr W0.heap.size u ns ∧ Ext W0 wr) (fun i _ _ => o.maps.length - (RowKit.intOf i).toNat)
  case atStart => exact ⟨[], o.maps, [], rfl, rfl, rfl, rfl, Own.nil _ _ _ _ _, Ext.refl _⟩
  case round =>
    obtain ⟨pre, suf, ns, hl', rfl, hns, hnl, ho, he⟩ := hrel
    have HNS := hx hns
    have HNL := hx hnl
    clear hns hnl
    have hpl : pre.length ≤ 100000 := by have := congrArg List.length hl'; simp at this; omega
    have he' := e0.trans he
    have hsz := he.size
    have q1 := he.cell p1
    obtain ⟨A5, c5, rfl⟩ := ho.slice
    cases suf with
    | cons x suf =>
      have hlt : pre.length < o.maps.length := by rw [hl']; simp
      have hvx := d1'
      rw [hl'] at hvx
      obtain ⟨b, o', rfl, ⟨t1, t2, t3, t4⟩, -⟩ := hvx.at
      replace t1 := he'.cell t1
      have HL := hx hl'; clear hl' hvx
      go_wp2_with (at_builtin; refine wp_app1 tyS encS_ok ho x.name rfl rfl rfl rfl rfl (by omega) (by decide) (by have := HNL.out; omega) ?_; intro g cap w2 o2 g2 a2 b2)
      have e2 := Ext.grown he g2 ho.base_le
      clear ho he he'
      go_roundw
      case rel => exact ⟨pre ++ [x], suf, ns ++ [x.name], by simp [HL.out], by simp, by rw [HNS.out]; simp, by simp [HNL.out], o2, e2⟩
      case measure => simp [RowKit.intOf]; omega
    | nil =>
      obtain rfl : o.maps = pre := by simpa using hl'
      clear hl'
      have hlt : ¬ o.maps.length < o.maps.length := by omega
      go_wp2
      go_ret
      refine ⟨_, rfl, ?_, he'⟩
      have hb := d1'.all (p := fun d => d.name.size ≤ 140737488355328) (fun b o x h => h.2.name)
      have h := ho.read (fun s hs => by
        rw [HNS.out] at hs
        obtain ⟨d, hd, rfl⟩ := List.mem_map.1 hs
        exact hb d hd) (by have := HNL.out; omega)
      rw [show ns = namesOf o from HNS.out] at h
      rw [show ns = namesOf o from HNS.out]
      exact h

set_option maxRecDepth 20000 in
set_option maxHeartbeats 2000000 in
theorem four_any (v : Value) (l : List Int) (base : Nat) (x : Int) (w : World) (hx0 : 0 ≤ x) (hx1 : x ≤ 1099511627776) (ho : OwnB w base v l) (hB : base ≤ w.heap.size) (hL : l.length ≤ 100000000000000) :
    Calls Tryz.prog 55 #[v, .int .i64 x] w fun e w' => ∃ v' l', e = .returned v' ∧ Hx (l' = l ++ le 4 x) ∧ Hx (l'.length = l.length + 4) ∧ OwnB w' base v' l' ∧ Grew w w' v v' := by
  go_enter Tryz.func55, Tryz.ntmps55
  go_wp2
  go_loopw [0, 1, 5] (fun s y i wr => ∃ (k : Nat) (y' : Int) (l' : List Int), k ≤ 4 ∧ i = .int .i64 k ∧ y = .int .i64 y' ∧ 0 ≤ y' ∧ y' ≤ 1099511627776 ∧ OwnB wr base s l' ∧ l' ++ le (4 - k) y' = l ++ le 4 x ∧ l'.length = l.length + k ∧ Grew w wr v s)
    (fun _ _ i _ => 4 - (RowKit.intOf i).toNat)
  case atStart => exact ⟨0, x, l, by omega, rfl, rfl, hx0, hx1, ho, rfl, rfl, Grew.refl _ _⟩
  case round =>
    obtain ⟨k, y', l', hk, rfl, rfl, hy0, hy1, ho', hle, hl', hG⟩ := hrel
    have HE := hx hle; clear hle
    have HLn := hx hl'; clear hl'
    have hsz := hG.size
    by_cases hlt : k < 4
    · have hlt2 : decide ((k : Int) < 4) = true := by simp; omega
      go_wp2_with (first | (at_builtin; refine wp_app1 tyB encB_ok ho' (y' % 256) rfl rfl rfl rfl rfl (by omega) (by decide) (by have := HLn.out; omega) ?_; intro g cap w1 ho1 hg1 hat1 hbg1))
      have hG1 := hG.trans (Grew.mk1 (n := l'.length + 1) (cap := cap) hg1 hat1)
      clear ho' hG hg1
      go_wp2
      go_roundw
      case rel => exact ⟨k + 1, y' / 256, l' ++ [y' % 256], by omega, by simp, rfl, by omega, by omega, ho1, by
        have := HE.out; rw [show 4 - k = (4 - (k + 1)) + 1 by omega, le] at this; simpa using this, by simp [HLn.out]; omega, hG1⟩
      case measure => simp [RowKit.intOf]; omega
    · obtain rfl : k = 4 := by omega
      obtain ⟨A, c, rfl⟩ := ho'.slice
      go_wp2
      go_ret
      have h : l' = l ++ le 4 x := by have := HE.out; simpa [le] using this
      exact ⟨_, l', rfl, ⟨h⟩, ⟨by rw [h]; simp [le_length]⟩, ho', hG⟩
end Go.Proofs.YtiaddncjghkajaaGreatDoor


set_option linter.unusedVariables false
set_option linter.unusedSimpArgs false
namespace Go.Proofs.YtiaddncjghkajaaGreatDoor
open Go.RowKit Go.Lib

def mapsF (l : List Def) : Int := (findA (fun _ d => mapE d) 0 l).2
theorem mapsF_cons (d : Def) (l : List Def) : mapsF (d :: l) = if mapE d = 0 then mapsF l else mapE d := by
  have key : ∀ (l : List Def) (i j : Int), (findA (fun _ d => mapE d) i l).2 = (findA (fun _ d => mapE d) j l).2 := by
    intro l
    induction l with
    | nil => intro i j; rfl
    | cons x l ih => intro i j; unfold findA; split <;> first | exact ih _ _ | rfl
  unfold mapsF
  rw [findA]
  split
  · exact key _ _ _
  · rfl
set_option maxRecDepth 40000 in
set_option maxHeartbeats 4000000 in
theorem ref16_Check_any (v : Value) (o : Ob) (w : World) (h : IsOb w v o) (hm : o.maps.length ≤ 100000) (hr : o.rels.length ≤ 1000000) :
    Calls Tryz.prog 16 #[v] w fun e w' => e = .returned (.int .i64 (obE o)) ∧ Ext w w' := by
  obtain ⟨v1, v2, v3, rfl, d1, d2, d3⟩ := id h
  obtain ⟨A1, c1, rfl, -, -, d1'⟩ := d1.form
  obtain ⟨A2, c2, rfl, -, hcl, d2'⟩ := d2.form
  obtain ⟨A3, c3, rfl, -, -, d3'⟩ := d3.form
  obtain ⟨W0, hW0⟩ : ∃ W0, W0 = w.alloc (.cells #[.slice A1 o.maps.length c1, .slice A2 o.code.length c2, .slice A3 o.rels.length c3] 26) := ⟨_, rfl⟩
  have e0 : Ext w W0 := by rw [hW0]; exact Ext.new _ _
  have p1 : W0.cell? ⟨w.heap.size, 0, none⟩ = some (.slice A1 o.maps.length c1) := by rw [hW0]; simp
  have p2 : W0.cell? ⟨w.heap.size, 1, none⟩ = some (.slice A2 o.code.length c2) := by rw [hW0]; simp
  have p3 : W0.cell? ⟨w.heap.size, 2, none⟩ = some (.slice A3 o.rels.length c3) := by rw [hW0]; simp
  have HW0 := hx hW0
  clear hW0 d1 d2 d3
  have hnames := fun W (hW : Ext w W) => ref16_names_any _ o W (h.ext hW) hm
  have HNM := hx hnames
  clear hnames h
  have hbn := d1'.all (p := fun d => d.name.size ≤ 140737488355328) (fun b o x h => h.2.name)
  obtain ⟨n, hn⟩ : ∃ n, n = o.code.length := ⟨_, rfl⟩
  rw [← hn] at d2' hcl p2 HNM HW0 ⊢
  have HNN := hx hn
  clear hn
  go_enter Tryz.func16, Tryz.ntmps16
  go_wp2
  rw [← HW0.out]
  go_loopw [3] (fun i wr => ∃ (pre suf : List Def), o.maps = pre ++ suf ∧ i = .int .i64 (pre.length : Nat) ∧ mapsF o.maps = mapsF suf ∧ Ext W0 wr) (fun i _ => o.maps.length - (RowKit.intOf i).toNat)
  case atStart => exact ⟨[], o.maps, rfl, rfl, rfl, Ext.refl _⟩
  case round =>
    obtain ⟨pre, suf, hl', rfl, hf, he⟩ := hrel
    have HF := hx hf
    clear hf
    have hpl : pre.length ≤ 100000 := by have := congrArg List.length hl'; simp at this; omega
    have he' := e0.trans he
    have q1 := he.cell p1
    cases suf with
    | cons x suf =>
      have hlt : pre.length < o.maps.length := by rw [hl']; simp
      have hxn := hbn x (by rw [hl']; simp)
      have hvx := d1'
      rw [hl'] at hvx
      obtain ⟨b, o', rfl, ⟨t1, t2, t3, t4⟩, -⟩ := hvx.at
      replace t1 := he'.cell t1
      replace t2 := he'.cell t2
      replace t3 := he'.cell t3
      replace t4 := he'.cell t4
      have HL := hx hl'; clear hl' hvx
      have hV := ref02_Valid_any x.name wr (by omega)
      have hSz := ref09_Sizes_any x wr
      have HFX := hx (mapsF_cons x suf)
      cases hid : idB x.name with
      | false =>
        rw [hid] at hV
        have hE := hx (show obE o = 7 by
          have h7 : mapE x = 7 := by unfold mapE; rw [hid]; rfl
          have : mapsF o.maps = 7 := by rw [HF.out, HFX.out, h7]; rfl
          have hm7 : mapsE o.maps = 7 := by unfold mapsE; rw [show (findA (fun _ d => mapE d) 0 o.maps).2 = 7 from this]; rfl
          unfold obE; rw [hm7]; rfl)
        clear hid
        go_wp2_with (first | (go_at_call 42; refine hV.mono ?_; rintro e w1 ⟨rfl, rfl⟩))
        go_ret
        exact ⟨ret_int hE.out.symm, he'⟩
      | true =>
        rw [hid] at hV
        cases hsz : sizesB x with
        | false =>
          rw [hsz] at hSz
          have hE := hx (show obE o = 9 by
            have h9 : mapE x = 9 := by unfold mapE; rw [hid, hsz]; rfl
            have : mapsF o.maps = 9 := by rw [HF.out, HFX.out, h9]; rfl
            have hm9 : mapsE o.maps = 9 := by unfold mapsE; rw [show (findA (fun _ d => mapE d) 0 o.maps).2 = 9 from this]; rfl
            unfold obE; rw [hm9]; rfl)
          clear hid hsz
          go_wp2_with (first | (go_at_call 42; refine hV.mono ?_; rintro e w1 ⟨rfl, rfl⟩) | (go_at_call 43; refine hSz.mono ?_; rintro e w1 ⟨rfl, e1⟩))
          go_ret
          exact ⟨ret_int hE.out.symm, he'.trans e1⟩
        | true =>
          rw [hsz] at hSz
          have hE := hx (show mapE x = 0 by unfold mapE; rw [hid, hsz]; rfl)
          clear hid hsz
          go_wp2_with (first | (go_at_call 42; refine hV.mono ?_; rintro e w1 ⟨rfl, rfl⟩) | (go_at_call 43; refine hSz.mono ?_; rintro e w1 ⟨rfl, e1⟩))
          go_roundw
          case rel => exact ⟨pre ++ [x], suf, by simp [HL.out], by simp, by rw [HF.out, HFX.out, if_pos hE.out], he.trans e1⟩
          case measure => simp [RowKit.intOf]; omega
    | nil =>
      obtain rfl : o.maps = pre := by simpa using hl'
      clear hl'
      have hlt : ¬ o.maps.length < o.maps.length := by omega
      have hF0 : (findA (fun _ d => mapE d) 0 o.maps).2 = 0 := HF.out
      have HF0 := hx hF0
      clear hF0 HF
      by_cases h255 : 255 < o.maps.length
      · have hO := hx (show obE o = 16 by
          have : mapsE o.maps = 16 := by unfold mapsE; rw [if_neg (by rw [HF0.out]; simp), if_pos h255]
          unfold obE; rw [this]; rfl)
        have h255' : (255 : Int) < (o.maps.length : Int) := by omega
        go_wp2
        go_ret
        exact ⟨ret_int hO.out.symm, he'⟩
      have hnm := HNM.out wr he'
      have hk0 := he.cell p1
      have hk1 := he.cell p2
      have hk2 := he.cell p3
      have hR := fun (v' : Value) (W : World) (hv : IsStrs W v' (namesOf o)) => ref02_Repeated_any v' (namesOf o) W (by simp [namesOf]; omega) hv
      have hmE := hx (show mapsE o.maps = if 0 ≤ repN (namesOf o) then 10 else 0 by unfold mapsE; rw [if_neg (by rw [HF0.out]; simp), if_neg h255]; rfl)
      have h255' : ¬ (255 : Int) < (o.maps.length : Int) := by omega
      clear h255 hbn
      generalize repN (namesOf o) = R at *
      by_cases hRn : 0 ≤ R
      · have hO := hx (show obE o = 10 by unfold obE; rw [hmE.out, if_pos hRn]; rfl)
        go_wp2_with (first | (go_at_call 45; refine hnm.mono ?_; rintro e w1 ⟨vn, rfl, sn, e1⟩) | (go_at_call 44; refine (hR _ _ sn).mono ?_; rintro e w2 ⟨rfl, e2⟩))
        go_ret
        exact ⟨ret_int hO.out.symm, he'.trans (e1.trans e2)⟩
      have hm0 := hx (show mapsE o.maps = 0 by rw [hmE.out, if_neg hRn])
      clear hmE
      by_cases hz : n = 0
      · have hO := hx (show obE o = 17 by unfold obE; rw [if_neg (by rw [hm0.out]; simp), if_pos (.inl (by rw [← HNN.out]; exact hz))])
        subst hz
        go_wp2_with (first | (go_at_call 45; refine hnm.mono ?_; rintro e w1 ⟨vn, rfl, sn, e1⟩) | (go_at_call 44; refine (hR _ _ sn).mono ?_; rintro e w2 ⟨rfl, e2⟩; have m1 := (e1.trans e2).cell hk1))
        go_ret
        exact ⟨ret_int hO.out.symm, he'.trans (e1.trans e2)⟩
      have hq1 : ((n : Int) == 0) = false := by simp; omega
      by_cases h8 : n % 8 = 0
      case neg =>
        have hO := hx (show obE o = 17 by unfold obE; rw [if_neg (by rw [hm0.out]; simp), if_pos (.inr (by rw [← HNN.out]; exact h8))])
        have hq2 : ((n : Int) % 8 != 0) = true := by simp; omega
        go_wp2_with (first | (go_at_call 45; refine hnm.mono ?_; rintro e w1 ⟨vn, rfl, sn, e1⟩) | (go_at_call 44; refine (hR _ _ sn).mono ?_; rintro e w2 ⟨rfl, e2⟩; have m1 := (e1.trans e2).cell hk1))
        go_ret
        exact ⟨ret_int hO.out.symm, he'.trans (e1.trans e2)⟩
      have hq2 : ((n : Int) % 8 != 0) = false := by simp; omega
      by_cases hb : 524280 < (n : Int)
      · have hO := hx (show obE o = 16 by unfold obE; rw [if_neg (by rw [hm0.out]; simp), if_neg (by rw [← HNN.out]; omega), if_pos (by rw [← HNN.out]; omega)])
        clear hz h8
        go_wp2_with (first | (go_at_call 45; refine hnm.mono ?_; rintro e w1 ⟨vn, rfl, sn, e1⟩) | (go_at_call 44; refine (hR _ _ sn).mono ?_; rintro e w2 ⟨rfl, e2⟩; have m1 := (e1.trans e2).cell hk1))
        go_ret
        exact ⟨ret_int hO.out.symm, he'.trans (e1.trans e2)⟩
      have hO := hx (show obE o = if relsOk ((n : Int) / 8) o.maps.length (-1) o.rels then 0 else 18 by unfold obE; rw [if_neg (by rw [hm0.out]; simp), if_neg (by rw [← HNN.out]; omega), if_neg (by rw [← HNN.out]; omega), ← HNN.out])
      clear hz h8
      go_wp2_with (first | (go_at_call 45; refine hnm.mono ?_; rintro e w1 ⟨vn, rfl, sn, e1⟩) | (go_at_call 44; refine (hR _ _ sn).mono ?_; rintro e w2 ⟨rfl, e2⟩; have m0 := (e1.trans e2).cell hk0; have m1 := (e1.trans e2).cell hk1; have m2 := (e1.trans e2).cell hk2))
      clear hR hnm hq1 hq2 hk0 hk1 hk2 sn q1
      have ew := he'.trans (e1.trans e2)
      clear e1 e2 he he'
      obtain ⟨S, hS⟩ : ∃ S, S = (n : Int) / 8 := ⟨_, rfl⟩
      have hS2 : (n : Int) / 8 = S := hS.symm
      have hS3 : Int.tdiv (n : Int) 8 = S := by rw [Int.tdiv_eq_ediv_of_nonneg (by omega)]; exact hS2
      have hSb : 0 ≤ S ∧ S ≤ 65535 := by omega
      obtain ⟨hS0, hS1⟩ := hSb
      rw [← hS] at hO
      have HS2 := hx hS2
      have HS3 := hx hS3
      clear hS hS2 hS3
      go_loopw [4] (fun i wr => ∃ (pre suf : List Rel) (y : Int) (N : Nat), o.rels = pre ++ suf ∧ N = pre.length ∧ i = .int .i64 (N : Nat) ∧ relsOk S o.maps.length (-1) o.rels = relsOk S o.maps.length y suf ∧ (N = 0 → y = -1) ∧ (0 < N → ∃ p, o.rels[N - 1]? = some p ∧ p.slot = y) ∧ -1 ≤ y ∧ y ≤ 65535 ∧ Ext w2 wr) (fun i _ => o.rels.length - (RowKit.intOf i).toNat)
      case atStart => exact ⟨[], o.rels, -1, 0, rfl, rfl, rfl, rfl, fun _ => rfl, fun h => absurd h (by simp), by omega, by omega, Ext.refl _⟩
      case round =>
        obtain ⟨pre, suf, y, N, hl', hN, rfl, hRl, hy0, hy1, hy2, hy3, he⟩ := hrel
        have HRl := hx hRl
        have HY0 := hx hy0
        have HY1 := hx hy1
        clear hRl hy0 hy1
        have hpl : N ≤ 1000000 := by have := congrArg List.length hl'; simp at this; omega
        have HNp := hx hN
        have n0 := he.cell m0
        have n1 := he.cell m1
        have n2 := he.cell m2
        have ew' := ew.trans he
        cases suf with
        | cons r suf =>
          have hlt : N < o.rels.length := by rw [hN, hl']; simp
          have hvx := d3'
          rw [hl'] at hvx
          obtain ⟨b, o', rfl, ⟨t1, t2⟩, hok⟩ := hvx.at
          rw [← hN] at t1 t2
          clear hN
          replace t1 := ew'.cell t1
          replace t2 := ew'.cell t2
          have HL := hx hl'; clear hl' hvx
          obtain ⟨x1, x2⟩ := r
          obtain ⟨⟨k1, k2⟩, k3, k4⟩ := hok
          simp only at t1 t2 k1 k2 k3 k4
          have i0 : (0 : Int) ≤ (N : Int) := by omega
          have i1 : (N : Int) < (o.rels.length : Int) := by omega
          have nw := fun (C : Obj) => Ext.new wr C
          have NW := hx nw
          clear nw
          have z0 := (NW.out (.cells #[.int .i64 x1, .int .i64 x2] 78)).cell n0
          have z1 := (NW.out (.cells #[.int .i64 x1, .int .i64 x2] 78)).cell n1
          have z2 := (NW.out (.cells #[.int .i64 x1, .int .i64 x2] 78)).cell n2
          have hs2 := HS2.out
          have hs3 := HS3.out
          by_cases b1 : 0 ≤ x1
          case neg =>
            have hF := hx (show relsOk S o.maps.length y (⟨x1, x2⟩ :: suf) = false by unfold relsOk; simp; omega)
            have hd1 : decide (x1 < 0) = true := by simp; omega
            go_wp2
            go_quiet (fail)
            go_wp2
            go_ret
            exact ⟨ret_int (by rw [hO.out, HRl.out, hF.out]; rfl), (ew'.alloc _).drewN _⟩
          have hd1 : decide (x1 < 0) = false := by simp; omega
          by_cases b2 : x1 < S
          case neg =>
            have hF := hx (show relsOk S o.maps.length y (⟨x1, x2⟩ :: suf) = false by unfold relsOk; simp; omega)
            have hd2 : decide (S ≤ x1) = true := by simp; omega
            go_wp2
            go_quiet (fail)
            go_wp2
            go_ret
            exact ⟨ret_int (by rw [hO.out, HRl.out, hF.out]; rfl), (ew'.alloc _).drewN _⟩
          have hd2 : decide (S ≤ x1) = false := by simp; omega
          by_cases hz0 : N = 0
          · have hy := HY0.out hz0
            have hd3 : decide ((0 : Int) < (N : Int)) = false := decide_eq_false (by omega)
            have hd3' : decide (0 < N) = false := decide_eq_false (by omega)
            have HYY := hx hy
            clear hz0 hy
            by_cases b4 : 0 ≤ x2
            case neg =>
              have hF := hx (show relsOk S o.maps.length y (⟨x1, x2⟩ :: suf) = false by unfold relsOk; simp; omega)
              have hd4 : decide (x2 < 0) = true := by simp; omega
              go_wp2
              go_quiet (fail)
              go_wp2
              go_ret
              exact ⟨ret_int (by rw [hO.out, HRl.out, hF.out]; rfl), (ew'.alloc _).drewN _⟩
            have hd4 : decide (x2 < 0) = false := by simp; omega
            by_cases b5 : x2 < o.maps.length
            case neg =>
              have hF := hx (show relsOk S o.maps.length y (⟨x1, x2⟩ :: suf) = false by unfold relsOk; simp; omega)
              have hd5 : decide ((o.maps.length : Int) ≤ x2) = true := by simp; omega
              go_wp2
              go_quiet (fail)
              go_wp2
              go_ret
              exact ⟨ret_int (by rw [hO.out, HRl.out, hF.out]; rfl), (ew'.alloc _).drewN _⟩
            have hd5 : decide ((o.maps.length : Int) ≤ x2) = false := by simp; omega
            have hF := hx (show relsOk S o.maps.length y (⟨x1, x2⟩ :: suf) = relsOk S o.maps.length x1 suf by rw [relsOk]; simp only [Bool.and_eq_right_iff_imp, decide_eq_true_eq]; intro; have := HYY.out; omega)
            go_wp2
            go_quiet (fail)
            go_wp2
            go_roundw
            case rel => exact ⟨pre ++ [⟨x1, x2⟩], suf, x1, N + 1, by simp [HL.out], by simp [HNp.out], by simp, by rw [HRl.out, hF.out], fun h => by omega, fun _ => ⟨⟨x1, x2⟩, by rw [HL.out, HNp.out]; simp, rfl⟩, by omega, by omega, (he.alloc _).drewN _⟩
            case measure => simp [RowKit.intOf]; omega
          obtain ⟨p, hp, hpy⟩ := HY1.out (by omega)
          obtain ⟨k, hk⟩ : ∃ k, N = k + 1 := ⟨N - 1, by omega⟩
          have hpk : o.rels[k]? = some p := by rw [← hp]; congr 1; omega
          obtain ⟨_, _, hq, ⟨u1, -⟩, -⟩ := d3'.get hpk
          cases hq
          rw [hpy] at u1
          replace u1 := ew'.cell u1
          have v1 := (NW.out (.cells #[.int .i64 x1, .int .i64 x2] 78)).cell u1
          have HK := hx hk
          have hkb : k < o.rels.length := by omega
          have hw1 : IntKind.i64.wrap ((N : Int) - 1) = k := by rw [IntWalk.i64_in _ (by omega)]; omega
          have hw2 : (N : Int) - 1 = k := by omega
          have hd3 : decide ((0 : Int) < (N : Int)) = true := decide_eq_true (by omega)
          have hd3' : decide (0 < N) = true := decide_eq_true (by omega)
          have hk0 : (0 : Int) ≤ (k : Int) := by omega
          have hk1 : (k : Int) < (o.rels.length : Int) := by omega
          clear hk hp hpk hpy hz0
          by_cases b3 : y < x1
          case neg =>
            have hF := hx (show relsOk S o.maps.length y (⟨x1, x2⟩ :: suf) = false by unfold relsOk; simp; omega)
            have hd6 : decide (x1 ≤ y) = true := by simp; omega
            go_wp2
            go_quiet (fail)
            go_wp2
            go_ret
            exact ⟨ret_int (by rw [hO.out, HRl.out, hF.out]; rfl), (ew'.alloc _).drewN _⟩
          have hd6 : decide (x1 ≤ y) = false := by simp; omega
          by_cases b4 : 0 ≤ x2
          case neg =>
            have hF := hx (show relsOk S o.maps.length y (⟨x1, x2⟩ :: suf) = false by unfold relsOk; simp; omega)
            have hd4 : decide (x2 < 0) = true := by simp; omega
            go_wp2
            go_quiet (fail)
            go_wp2
            go_ret
            exact ⟨ret_int (by rw [hO.out, HRl.out, hF.out]; rfl), (ew'.alloc _).drewN _⟩
          have hd4 : decide (x2 < 0) = false := by simp; omega
          by_cases b5 : x2 < o.maps.length
          case neg =>
            have hF := hx (show relsOk S o.maps.length y (⟨x1, x2⟩ :: suf) = false by unfold relsOk; simp; omega)
            have hd5 : decide ((o.maps.length : Int) ≤ x2) = true := by simp; omega
            go_wp2
            go_quiet (fail)
            go_wp2
            go_ret
            exact ⟨ret_int (by rw [hO.out, HRl.out, hF.out]; rfl), (ew'.alloc _).drewN _⟩
          have hd5 : decide ((o.maps.length : Int) ≤ x2) = false := by simp; omega
          have hF := hx (show relsOk S o.maps.length y (⟨x1, x2⟩ :: suf) = relsOk S o.maps.length x1 suf by rw [relsOk]; simp only [Bool.and_eq_right_iff_imp, decide_eq_true_eq]; intro; omega)
          go_wp2
          go_quiet (fail)
          go_wp2
          go_roundw
          case rel => exact ⟨pre ++ [⟨x1, x2⟩], suf, x1, N + 1, by simp [HL.out], by simp [HNp.out], by simp, by rw [HRl.out, hF.out], fun h => by omega, fun _ => ⟨⟨x1, x2⟩, by rw [HL.out, HNp.out]; simp, rfl⟩, by omega, by omega, (he.alloc _).drewN _⟩
          case measure => simp [RowKit.intOf]; omega
        | nil =>
          obtain rfl : o.rels = pre := by simpa using hl'
          clear hl'
          have hlt : ¬ N < o.rels.length := by omega
          clear hN
          go_wp2
          go_ret
          exact ⟨ret_int (by rw [hO.out, HRl.out]; rfl), ew'⟩
end Go.Proofs.YtiaddncjghkajaaGreatDoor
