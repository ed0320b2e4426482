/- The layer prog: Check, and Check of a program without statements. -/
import Derived.Test.YtiaddncjghkajaaGreatDoorJRules
import Derived.Test.YtiaddncjghkajaaGreatDoorJObj
set_option linter.unusedVariables false
set_option linter.unusedSimpArgs false
namespace Go.Proofs.YtiaddncjghkajaaGreatDoor
open Go.RowKit Go.Lib

set_option maxRecDepth 20000 in
set_option maxHeartbeats 1000000 in
theorem progCheck_of (A1 A2 : Option Addr) (n1 c1 n2 c2 : Nat) (f : Int × Int) (i : Int) (w : World)
    (hc : ∀ W, Ext w W → Calls Tryz.prog 85 #[.agg #[.slice A1 n1 c1, .slice A2 n2 c2]] W fun e w' => e = .returned (.tuple #[findV f, .int .i64 i]) ∧ Ext W w') :
    Calls Tryz.prog 41 #[.agg #[.slice A1 n1 c1, .slice A2 n2 c2]] w fun e w' => e = .returned (.tuple #[.int .i64 f.1, .int .i64 f.2]) ∧ Ext w w' := by
  have e0 := Ext.new w (.cells #[.slice A1 n1 c1, .slice A2 n2 c2] 50)
  have hc1 := hc _ e0
  obtain ⟨x, y⟩ := f
  simp only [findV] at hc1
  clear hc
  go_enter Tryz.func41, Tryz.ntmps41
  go_wp2_with (first | (go_at_call 85; refine hc1.mono ?_; rintro e w1 ⟨rfl, e1⟩; replace e1 := e0.trans e1))
  go_region
  all_goals (go_wp2; go_ret2; exact ⟨rfl, (e1.alloc _).drew⟩)

/-- What the variable none of prog holds. -/
structure NoneV (w : World) : Prop where
  a : w.cell? ⟨0, 0, none⟩ = some (.int .i64 0)
  b : w.cell? ⟨0, 1, none⟩ = some (.int .i64 0)
theorem NoneV.ext {w w' : World} (h : NoneV w) (he : Ext w w') : NoneV w' := ⟨he.cell h.a, he.cell h.b⟩
theorem enD : ∀ args W, (callFunc 187 args).run Tryz.prog W = .ok (.enter 187 args) W := fun _ _ => by kernel_rfl
theorem enS : ∀ args W, (callFunc 190 args).run Tryz.prog W = .ok (.enter 190 args) W := fun _ _ => by kernel_rfl
theorem enL : ∀ args W, (callFunc 172 args).run Tryz.prog W = .ok (.enter 172 args) W := fun _ _ => by kernel_rfl
theorem en3 : ∀ args W, (callFunc 173 args).run Tryz.prog W = .ok (.enter 173 args) W := fun _ _ => by kernel_rfl
def mapRs (l : List Def) : List (Int × Int) :=
  [findA (fun _ d => mapE d) 0 l, (0, 0), findA (fun i _ => whenN (decide (255 ≤ i)) 16) 0 l, findA (fun i _ => whenN (repN (l.map (·.name)) == i) 10) 0 l, (0, 0), (0, 15), (0, 0), (0, 0), (0, 0)]
theorem mapRs_e (l : List Def) : (firstF 0 (mapRs l)).1.2 = if mapsE l ≠ 0 then mapsE l else 15 := by
  have h1 := find_size l
  have h2 := find_rep l (repN (l.map (·.name))) (by have := repN_bd (l.map (·.name)); simpa using this)
  unfold mapRs mapsE
  generalize findA (fun _ d => mapE d) 0 l = a at *
  generalize findA (fun i _ => whenN (decide (255 ≤ i)) 16) 0 l = b at *
  generalize findA (fun i _ => whenN (repN (l.map (·.name)) == i) 10) 0 l = c at *
  obtain ⟨a1, a2⟩ := a
  obtain ⟨b1, b2⟩ := b
  obtain ⟨c1, c2⟩ := c
  simp only at h1 h2
  subst h1 h2
  simp only [firstF]
  by_cases ha : a2 = 0
  · subst ha
    by_cases hb : 255 < l.length
    · simp [hb]
    · by_cases hc : 0 ≤ repN (l.map (·.name))
      · simp [hb, hc]
      · simp [hb, hc]
  · simp [ha]

theorem defs_ok {w : World} {v : Value} {l : List Def} (h : IsDefs w v l) : ∀ d ∈ l, d.Ok := Sl.all h fun _ _ _ k => k.2
theorem check_maps (v1 : Value) (l : List Def) (w : World) (hl : l.length ≤ 100000) (hv : IsDefs w v1 l) (hG : Glob w) (hN : NoneV w) :
    Calls Tryz.prog 41 #[.agg #[v1, .slice none 0 0]] w fun e w' => ∃ i : Int, e = .returned (.tuple #[.int .i64 i, .int .i64 (if mapsE l ≠ 0 then mapsE l else 15)]) ∧ Ext w w' := by
  obtain ⟨A, c, rfl, -, -, hv'⟩ := hv.form
  have hok := defs_ok hv
  refine (progCheck_of A none l.length c 0 0 (firstF 0 (mapRs l)).1 (firstF 0 (mapRs l)).2 w fun W0 hW0 => ?_).mono fun e w' ⟨h1, h2⟩ => ⟨(firstF 0 (mapRs l)).1.1, by rw [h1, ← mapRs_e], h2⟩
  refine check_nine A none l.length c 0 0 (mapRs l) W0 rfl (hN.ext hW0).a (hN.ext hW0).b fun W R hW ra k r hr hz => ?_
  have e1 := hW0.trans hW
  have z := fun h5 => hz 5 (0, 15) h5 rfl
  have hk : k < 6 := by
    by_cases h : k < 6
    · exact h
    · exact absurd (z (by omega)) (by decide)
  clear hz z
  match k, hk with
  | 0, _ =>
    obtain ⟨a, b, c1, c2, c3⟩ := ra.r1
    obtain rfl := Option.some.inj hr
    refine ⟨_, _, c1, enD, fun W' hW' => ?_⟩
    have e2 := e1.trans hW'
    refine eachDef1_any a b _ none 0 0 l (fun _ d => mapE d) W' hl (IsDefs.ext hv e2) (hW'.cell c2) (hW'.cell c3) (hN.ext e2).a (hN.ext e2).b fun i d W'' hW'' hd => ?_
    exact checkMap_any A none l.length c 0 0 i d (hok d hd) W'' (hG.ext (e2.trans hW''))
  | 1, _ =>
    obtain ⟨a, b, c1, c2, c3⟩ := ra.r2
    obtain rfl := Option.some.inj hr
    refine ⟨_, _, c1, enS, fun W' hW' => ?_⟩
    have e2 := e1.trans hW'
    exact eachStmt1_none a b A none l.length c 0 W' (hW'.cell c2) (hN.ext e2).a (hN.ext e2).b
  | 2, _ =>
    obtain ⟨a, b, c1, c2, c3⟩ := ra.r3
    obtain rfl := Option.some.inj hr
    refine ⟨_, _, c1, enD, fun W' hW' => ?_⟩
    have e2 := e1.trans hW'
    refine eachDefR1_any a b _ none 0 0 l (fun i _ => whenN (decide (255 ≤ i)) 16) W' hl (IsDefs.ext hv e2) (hW'.cell c2) (hW'.cell c3) (hN.ext e2).a (hN.ext e2).b fun i d W'' hW'' hd => ?_
    exact rules1_any A none l.length c 0 0 i d W''
  | 3, _ =>
    obtain ⟨a, b, c1, c2, c3⟩ := ra.r4
    obtain rfl := Option.some.inj hr
    refine ⟨_, _, c1, enD, fun W' hW' => ?_⟩
    have e2 := e1.trans hW'
    refine eachDefR2_any a b _ none 0 0 l (fun i _ => whenN (repN (l.map (·.name)) == i) 10) W' hl (IsDefs.ext hv e2) (hW'.cell c2) (hW'.cell c3) (hN.ext e2).a (hN.ext e2).b fun i d W'' hW'' hd => ?_
    exact rules2_any _ none 0 0 l i d W'' hl (IsDefs.ext hv (e2.trans hW''))
  | 4, _ =>
    obtain rfl := Option.some.inj hr
    refine ⟨_, _, ra.r5, enL, fun W' hW' => ?_⟩
    have e2 := e1.trans hW'
    exact labelsOnce_none A none l.length c 0 W' (hN.ext e2).a (hN.ext e2).b
  | 5, _ =>
    obtain rfl := Option.some.inj hr
    refine ⟨_, _, ra.r6, en3, fun W' hW' => ?_⟩
    exact rules3_none A none l.length c 0 W'
end Go.Proofs.YtiaddncjghkajaaGreatDoor


set_option linter.unusedVariables false
set_option linter.unusedSimpArgs false
namespace Go.Proofs.YtiaddncjghkajaaGreatDoor
open Go.RowKit Go.Lib

theorem findA_val {chk : Int → Def → Int} {p : Int → Prop} (h0 : p 0) (h : ∀ i d, p (chk i d)) : ∀ (l : List Def) (i : Int), p (findA chk i l).2 := by
  intro l
  induction l with
  | nil => intro i; exact h0
  | cons x l ih =>
    intro i
    unfold findA
    split
    · exact ih _
    · exact h _ _
theorem mapsE_ne (l : List Def) : mapsE l ≠ 15 ∧ 0 ≤ mapsE l ∧ mapsE l ≤ 16 := by
  have h := findA_val (chk := fun _ d => mapE d) (p := fun x => x ≠ 15 ∧ 0 ≤ x ∧ x ≤ 16) (by omega) (fun i d => by
    simp only [mapE, whenN]; split <;> (try split) <;> omega) l 0
  unfold mapsE
  split
  · exact h
  · split
    · omega
    · split <;> omega

set_option maxRecDepth 20000 in
set_option maxHeartbeats 2000000 in
theorem object_Check_any (v : Value) (o : Ob) (w : World) (h : IsOb w v o) (hm : o.maps.length ≤ 100000) (hr : o.rels.length ≤ 1000000) (hG : Glob w) (hN : NoneV w) :
    Calls Tryz.prog 15 #[v] w fun e w' => e = .returned (.int .i64 (obE o)) ∧ Ext w w' := by
  obtain ⟨v1, v2, v3, rfl, d1, d2, d3⟩ := h
  obtain ⟨A1, c1, rfl, -, -, d1'⟩ := d1.form
  obtain ⟨A2, c2, rfl, -, hcl, d2'⟩ := d2.form
  obtain ⟨A3, c3, rfl, -, -, d3'⟩ := d3.form
  have e0 := Ext.new w (.cells #[.slice A1 o.maps.length c1, .slice A2 o.code.length c2, .slice A3 o.rels.length c3] 26)
  have hC := check_maps _ o.maps _ hm (IsDefs.ext d1' e0) (hG.ext e0) (hN.ext e0)
  have p1 : (w.alloc (.cells #[.slice A1 o.maps.length c1, .slice A2 o.code.length c2, .slice A3 o.rels.length c3] 26)).cell? ⟨w.heap.size, 0, none⟩ = some (.slice A1 o.maps.length c1) := by simp
  have p2 : (w.alloc (.cells #[.slice A1 o.maps.length c1, .slice A2 o.code.length c2, .slice A3 o.rels.length c3] 26)).cell? ⟨w.heap.size, 1, none⟩ = some (.slice A2 o.code.length c2) := by simp
  have p3 : (w.alloc (.cells #[.slice A1 o.maps.length c1, .slice A2 o.code.length c2, .slice A3 o.rels.length c3] 26)).cell? ⟨w.heap.size, 2, none⟩ = some (.slice A3 o.rels.length c3) := by simp
  have hne := mapsE_ne o.maps
  by_cases hE : mapsE o.maps = 0
  case neg =>
    have hO := hx (show obE o = mapsE o.maps by unfold obE; rw [if_pos hE])
    rw [if_pos hE] at hC
    have hn15 : (mapsE o.maps != 15) = true := by simpa using hne.1
    generalize mapsE o.maps = M at *
    clear hne hE
    go_enter Tryz.func15, Tryz.ntmps15
    go_wp2_with (first | (go_at_call 41; refine hC.mono ?_; rintro e w1 ⟨i, rfl, e1⟩; replace e1 := e0.trans e1))
    go_ret
    exact ⟨ret_int hO.out.symm, e1⟩
  rw [if_neg (by simpa using hE)] at hC
  have HE := hx hE
  clear hne hE
  obtain ⟨n, hn⟩ : ∃ n, n = o.code.length := ⟨_, rfl⟩
  rw [← hn] at d2' hcl e0 hC p1 p2 p3 ⊢
  have HNN := hx hn
  clear hn d2
  by_cases hz : n / 8 = 0
  · have hO := hx (show obE o = 17 by unfold obE; rw [if_neg (by simpa using HE.out), if_pos (by have := HNN.out; omega)])
    have hq : ((n : Int) / 8 == 0) = true := by simp; omega
    clear hz
    go_enter Tryz.func15, Tryz.ntmps15
    go_wp2_with (first | (go_at_call 41; refine hC.mono ?_; rintro e w1 ⟨i, rfl, e1⟩; have q2 := e1.cell p2; replace e1 := e0.trans e1))
    go_ret
    exact ⟨ret_int hO.out.symm, e1⟩
  have hq : ((n : Int) / 8 == 0) = false := by simp; omega
  by_cases h8 : n % 8 = 0
  case neg =>
    have hO := hx (show obE o = 17 by unfold obE; rw [if_neg (by simpa using HE.out), if_pos (by have := HNN.out; omega)])
    have hq2 : ((n : Int) % 8 != 0) = true := by simp; omega
    clear hz h8
    go_enter Tryz.func15, Tryz.ntmps15
    go_wp2_with (first | (go_at_call 41; refine hC.mono ?_; rintro e w1 ⟨i, rfl, e1⟩; have q2 := e1.cell p2; replace e1 := e0.trans e1))
    go_ret
    exact ⟨ret_int hO.out.symm, e1⟩
  have hq2 : ((n : Int) % 8 != 0) = false := by simp; omega
  by_cases hb : 65535 < (n : Int) / 8
  · have hO := hx (show obE o = 16 by unfold obE; rw [if_neg (by simpa using HE.out), if_neg (by have := HNN.out; omega), if_pos (by have := HNN.out; omega)])
    clear hz h8
    go_enter Tryz.func15, Tryz.ntmps15
    go_wp2_with (first | (go_at_call 41; refine hC.mono ?_; rintro e w1 ⟨i, rfl, e1⟩; have q2 := e1.cell p2; replace e1 := e0.trans e1))
    go_ret
    exact ⟨ret_int hO.out.symm, e1⟩
  have hO := hx (show obE o = if relsOk ((n : Int) / 8) o.maps.length (-1) o.rels then 0 else 18 by unfold obE; rw [if_neg (by simpa using HE.out), if_neg (by have := HNN.out; omega), if_neg (by have := HNN.out; omega), HNN.out])
  have hbd : (n : Int) / 8 ≤ 65535 := by omega
  have hb0 : 0 ≤ (n : Int) / 8 := by omega
  clear hz h8 hb hcl
  go_enter Tryz.func15, Tryz.ntmps15
  go_wp2_with (first | (go_at_call 41; refine hC.mono ?_; rintro e w1 ⟨i, rfl, e1⟩; have q1 := e1.cell p1; have q2 := e1.cell p2; have q3 := e1.cell p3; replace e1 := e0.trans e1))
  clear hC hq hq2
  generalize (n : Int) / 8 = S at *
  have HR3 := hx d3'
  go_loopw [39, 6] (fun i x wr => ∃ (pre suf : List Rel) (y : Int), o.rels = pre ++ suf ∧ i = .int .i64 (pre.length : Nat) ∧ x = .int .i64 y ∧ I64 y ∧ relsOk S o.maps.length (-1) o.rels = relsOk S o.maps.length y suf ∧ Ext w1 wr) (fun i _ _ => o.rels.length - (RowKit.intOf i).toNat)
  case atStart => exact ⟨[], o.rels, -1, rfl, rfl, rfl, by unfold I64; omega, rfl, Ext.refl _⟩
  case round =>
    obtain ⟨pre, suf, y, hl', rfl, rfl, ⟨y1, y2⟩, hR, he⟩ := hrel
    have HR := hx hR
    clear hR
    have hpl : pre.length ≤ 1000000 := by have := congrArg List.length hl'; simp at this; omega
    replace q1 := he.cell q1
    replace q2 := he.cell q2
    replace q3 := he.cell q3
    cases suf with
    | cons r suf =>
      have hlt : pre.length < o.rels.length := by rw [hl']; simp
      have hvx := d3'
      rw [hl'] at hvx
      obtain ⟨b, o', rfl, ⟨t1, t2⟩, hok⟩ := hvx.at
      replace t1 := (e1.trans he).cell t1
      replace t2 := (e1.trans he).cell t2
      have HL := hx hl'; clear hl' hvx
      obtain ⟨x1, x2⟩ := r
      obtain ⟨⟨k1, k2⟩, k3, k4⟩ := hok
      simp only at t1 t2 k1 k2 k3 k4
      have w1' := (Ext.new wr (.cells #[.int .i64 x1, .int .i64 x2] 78)).cell q1
      by_cases b1 : y < x1
      case neg =>
        have hF := hx (show relsOk S o.maps.length y (⟨x1, x2⟩ :: suf) = false by unfold relsOk; simp; omega)
        go_wp2
        go_ret
        exact ⟨ret_int (by rw [hO.out, HR.out, hF.out]; rfl), (e1.trans he).alloc _⟩
      by_cases b2 : x1 < S
      case neg =>
        have hF := hx (show relsOk S o.maps.length y (⟨x1, x2⟩ :: suf) = false by unfold relsOk; simp; omega)
        go_wp2
        go_ret
        exact ⟨ret_int (by rw [hO.out, HR.out, hF.out]; rfl), (e1.trans he).alloc _⟩
      by_cases b3 : 0 ≤ x2
      case neg =>
        have hF := hx (show relsOk S o.maps.length y (⟨x1, x2⟩ :: suf) = false by unfold relsOk; simp; omega)
        go_wp2
        go_ret
        exact ⟨ret_int (by rw [hO.out, HR.out, hF.out]; rfl), (e1.trans he).alloc _⟩
      by_cases b4 : x2 < o.maps.length
      case neg =>
        have hF := hx (show relsOk S o.maps.length y (⟨x1, x2⟩ :: suf) = false by unfold relsOk; simp; omega)
        go_wp2
        go_ret
        exact ⟨ret_int (by rw [hO.out, HR.out, hF.out]; rfl), (e1.trans he).alloc _⟩
      have hF := hx (show relsOk S o.maps.length y (⟨x1, x2⟩ :: suf) = relsOk S o.maps.length x1 suf by rw [relsOk]; simp [b1, b2, b3, b4])
      go_wp2
      go_roundw
      case rel => exact ⟨pre ++ [⟨x1, x2⟩], suf, x1, by simp [HL.out], by simp, rfl, ⟨k1, k2⟩, by rw [HR.out, hF.out], he.alloc _⟩
      case measure => simp [RowKit.intOf]; omega
    | nil =>
      obtain rfl : o.rels = pre := by simpa using hl'
      clear hl'
      have hlt : ¬ o.rels.length < o.rels.length := by omega
      go_wp2
      go_ret
      exact ⟨ret_int (by rw [hO.out, HR.out]; rfl), e1.trans he⟩
end Go.Proofs.YtiaddncjghkajaaGreatDoor
