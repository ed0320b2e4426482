/- The layer object: Pack and Size. -/
import Derived.Test.YtiaddncjghkajaaGreatDoorJRowsD
import Derived.Deep.RegionWith
import Derived.Deep.RegionHeld3
set_option linter.unusedVariables false
set_option linter.unusedSimpArgs false
namespace Go.Proofs.YtiaddncjghkajaaGreatDoor
open Go.RowKit Go.Lib

theorem small_defs {o : Ob} (h : obE o = 0) : Small (defN o.maps) := by
  intro x hx
  obtain ⟨d, hd, hx⟩ := List.mem_flatMap.1 hx
  have := (mapE_parts ((mapsE_parts (obE_parts h).1).1 d hd)).2
  simp only [sizesB, decide_eq_true_eq] at this
  simp at hx
  rcases hx with rfl | rfl | rfl | rfl <;> omega
theorem small_rels {o : Ob} (h : obE o = 0) : Small (relN o.rels) := by
  intro x hx
  obtain ⟨d, hd, hx⟩ := List.mem_flatMap.1 hx
  obtain ⟨h1, h2, h3, h4, h5⟩ := obE_parts h
  have h6 := (mapsE_parts h1).2.1
  have := (rels_len _ _ _ _ h5 (by omega)).2 d hd
  simp at hx
  rcases hx with rfl | rfl <;> omega
theorem symN_vals (l : List Int) : ∀ (i : Nat) (x : Int), x ∈ symN i l → x ∈ l ∨ (0 ≤ x ∧ x ≤ i + l.length) := by
  induction l with
  | nil => intro i x h; simp [symN] at h
  | cons o l ih =>
    intro i x h
    simp only [symN, List.mem_cons] at h
    rcases h with rfl | rfl | h
    · simp
    · right; simp; omega
    · rcases ih _ _ h with h | h
      · left; simp [h]
      · right; simp only [List.length_cons]; omega
theorem small_syms {o : Ob} (h : obE o = 0) : Small (symN 0 (offsOf 1 (namesOf o))) := by
  intro x hx
  obtain ⟨g1, g2, g3⟩ := names_good h
  have ht : tlen (namesOf o) ≤ 8415 := Nat.le_trans (tlen_le g2) (by omega)
  rcases symN_vals _ _ _ hx with h | h
  · have := offsOf_bd 1 (namesOf o) x h; omega
  · rw [offsOf_length] at h; omega

theorem secs5 (W : World) (t : TypeId) (u1 u2 u3 u4 u5 : Value) (x1 x2 x3 x4 x5 : List Int) (h1 : IsB W u1 x1) (h2 : IsB W u2 x2) (h3 : IsB W u3 x3) (h4 : IsB W u4 x4) (h5 : IsB W u5 x5) :
    IsSecs (W.alloc (.cells #[.int .i64 1, u1, .int .i64 2, u2, .int .i64 3, u3, .int .i64 4, u4, .int .i64 5, u5] t)) (.slice (some ⟨W.heap.size, 0, none⟩) 5 5) [⟨1, x1⟩, ⟨2, x2⟩, ⟨3, x3⟩, ⟨4, x4⟩, ⟨5, x5⟩] := by
  have he := Ext.new W (.cells #[.int .i64 1, u1, .int .i64 2, u2, .int .i64 3, u3, .int .i64 4, u4, .int .i64 5, u5] t)
  refine ⟨_, 5, rfl, ⟨by simp, by simp [maxLen]⟩, by simp, (fun h => by cases h), fun i x hx => ⟨W.heap.size, 0, rfl, ?_⟩⟩
  have hb := fun (k : Int) => (show 1 ≤ k ∧ k ≤ 5 → I64 k from fun h => by unfold I64; omega)
  match i, hx with
  | 0, hx => obtain rfl := Option.some.inj hx; exact ⟨⟨by simp, hb 1 (by omega)⟩, u1, by simp, h1.ext he⟩
  | 1, hx => obtain rfl := Option.some.inj hx; exact ⟨⟨by simp, hb 2 (by omega)⟩, u2, by simp, h2.ext he⟩
  | 2, hx => obtain rfl := Option.some.inj hx; exact ⟨⟨by simp, hb 3 (by omega)⟩, u3, by simp, h3.ext he⟩
  | 3, hx => obtain rfl := Option.some.inj hx; exact ⟨⟨by simp, hb 4 (by omega)⟩, u4, by simp, h4.ext he⟩
  | 4, hx => obtain rfl := Option.some.inj hx; exact ⟨⟨by simp, hb 5 (by omega)⟩, u5, by simp, h5.ext he⟩
  | n + 5, hx => simp at hx

set_option maxRecDepth 20000 in
set_option maxHeartbeats 4000000 in
theorem object_Pack_any (v : Value) (o : Ob) (w : World) (h : IsOb w v o) (hm : o.maps.length ≤ 100000) (hr : o.rels.length ≤ 1000000) (hG : Glob w) (hN : NoneV w) :
    Calls Tryz.prog 17 #[v] w fun e w' => ∃ v', e = .returned (.tuple #[v', .int .i64 (obE o)]) ∧ IsB w' v' (pkOut o) ∧ Ext w w' := by
  obtain ⟨v1, v2, v3, rfl, d1, d2, d3⟩ := id h
  obtain ⟨A1, c1, rfl, -, -, d1'⟩ := d1.form
  obtain ⟨A2, c2, rfl, -, hcl, d2'⟩ := d2.form
  obtain ⟨A3, c3, rfl, -, -, d3'⟩ := d3.form
  obtain ⟨W0, hW0⟩ : ∃ W0, W0 = w.alloc (.cells #[.slice A1 o.maps.length c1, .slice A2 o.code.length c2, .slice A3 o.rels.length c3] 26) := ⟨_, rfl⟩
  have e0 : Ext w W0 := by rw [hW0]; exact Ext.new _ _
  have p1 : W0.cell? ⟨w.heap.size, 0, none⟩ = some (.slice A1 o.maps.length c1) := by rw [hW0]; simp
  have p2 : W0.cell? ⟨w.heap.size, 1, none⟩ = some (.slice A2 o.code.length c2) := by rw [hW0]; simp
  have p3 : W0.cell? ⟨w.heap.size, 2, none⟩ = some (.slice A3 o.rels.length c3) := by rw [hW0]; simp
  have hC := object_Check_any _ o W0 (h.ext e0) hm hr (hG.ext e0) (hN.ext e0)
  rw [hW0] at hC
  have HW0 := hx hW0
  clear hW0 h d1 d2 d3
  by_cases hE : obE o = 0
  case neg =>
    have hP : Hx (pkOut o = []) := ⟨by unfold pkOut; rw [if_neg hE]⟩
    have hn : (obE o != 0) = true := by simpa using hE
    clear hE
    generalize obE o = E at *
    go_enter Tryz.func17, Tryz.ntmps17
    go_wp2_with (first | (go_at_call 15; refine hC.mono ?_; rintro e w1 ⟨rfl, e1⟩; rw [← HW0.out] at e1; have k1 := e0.trans e1))
    go_ret2
    exact ⟨_, rfl, by rw [hP.out]; exact Sl.nil _, k1⟩
  rw [hE] at hC ⊢
  have hP : Hx (pkOut o = packOf o) := ⟨by unfold pkOut; rw [if_pos hE]⟩
  have HE := hx hE
  clear hE
  go_enter Tryz.func17, Tryz.ntmps17
  go_wp2_with (first | (go_at_call 15; refine hC.mono ?_; rintro e w1 ⟨rfl, e1⟩; rw [← HW0.out] at e1; have k1 := e0.trans e1; have q1 := e1.cell p1))
  clear hC
  have hpr := hx (obE_parts HE.out)
  have hml : o.maps.length ≤ 255 := (mapsE_parts hpr.out.1).2.1
  go_loopw [19, 5] (fun i u wr => ∃ (pre suf : List Def) (ns : List ByteArray), o.maps = pre ++ suf ∧ i = .int .i64 (pre.length : Nat) ∧ ns = pre.map (·.name) ∧ ns.length = pre.length ∧ OwnS wr w1.heap.size u ns ∧ Ext w1 wr) (fun i _ _ => o.maps.length - (RowKit.intOf i).toNat)
  case atStart => exact ⟨[], o.maps, [], rfl, rfl, rfl, rfl, Own.nil _ _ _ _ _, Ext.refl _⟩
  case round =>
    obtain ⟨pre, suf, ns, hl', rfl, hns, hnl, ho, he⟩ := hrel
    have HNS := hx hns
    have HNL := hx hnl
    clear hns hnl
    have hpl : pre.length ≤ 255 := by have := congrArg List.length hl'; simp at this; omega
    have he' := k1.trans he
    have hsz := he.size
    obtain ⟨A5, c5, rfl⟩ := ho.slice
    cases suf with
    | cons x suf =>
      have hlt : pre.length < o.maps.length := by rw [hl']; simp
      have hvx := d1'
      rw [hl'] at hvx
      obtain ⟨b, o', rfl, ⟨t1, t2, t3, t4⟩, -⟩ := hvx.at
      replace t1 := he'.cell t1
      replace t2 := he'.cell t2
      replace t3 := he'.cell t3
      replace t4 := he'.cell t4
      have HL := hx hl'; clear hl' hvx
      have o1 := ho.alloc (.cells #[.string x.name, .int .i64 x.key, .int .i64 x.val, .int .i64 x.ents] 81)
      go_wp2_with (at_builtin; refine wp_app1 tyS encS_ok o1 x.name rfl rfl rfl rfl (by rw [World.size_alloc]; rfl) (by simp; omega) (by decide) (by have := HNL.out; omega) ?_; intro g cap w2 o2 g2 a2 b2)
      have e2 := Ext.grown (he.alloc (.cells #[.string x.name, .int .i64 x.key, .int .i64 x.val, .int .i64 x.ents] 81)) g2 o1.base_le
      clear ho o1 he he'
      go_roundw
      case rel => exact ⟨pre ++ [x], suf, ns ++ [x.name], by simp [HL.out], by simp, by rw [HNS.out]; simp, by simp [HNL.out], o2, e2⟩
      case measure => simp [RowKit.intOf]; omega
    | nil =>
      obtain rfl : o.maps = pre := by simpa using hl'
      clear hl'
      have hlt : ¬ o.maps.length < o.maps.length := by omega
      have hng := names_good HE.out
      have hrd : IsStrs wr (.slice A5 ns.length c5) ns := ho.read (fun s hs => by
        have := hng.2.1 s (by rw [namesOf, ← HNS.out]; exact hs)
        omega) (by have := HNL.out; omega)
      have hB := strtab_Build_any _ ns wr (by have := HNL.out; omega) (fun s hs => hng.1 s (by rw [namesOf, ← HNS.out]; exact hs)) (fun s hs => by have := hng.2.1 s (by rw [namesOf, ← HNS.out]; exact hs); omega) hrd
      rw [show ns = namesOf o from HNS.out] at hB
      have hln : Hx (ns.length = (namesOf o).length) := ⟨by rw [show ns = namesOf o from HNS.out]⟩
      rw [← hln.out] at hB
      clear hrd hng
      have q1 := (e1.trans he).cell p1
      have q2 := (e1.trans he).cell p2
      have q3 := (e1.trans he).cell p3
      go_wp2_with (first | (go_at_call 46; refine hB.mono ?_; rintro e w2 ⟨tb, of, rfl, tb1, of1, e2⟩; have f1 := (e1.trans he).trans e2; have r1 := f1.cell p1; have r2 := f1.cell p2; have r3 := f1.cell p3))
      have g1 : Ext w w2 := e0.trans f1
      have C1 := hx (fun W (hW : Ext w2 W) => rowsD_any _ o.maps W (by omega) (IsDefs.ext d1' (g1.trans hW)) (small_defs HE.out))
      have C2 := hx (fun W (hW : Ext w2 W) => rowsI_any of _ W (by rw [offsOf_length]; rw [namesOf]; simp; omega) (IsInts.ext of1 hW) (small_syms HE.out))
      have C3 := hx (fun W (hW : Ext w2 W) => rowsR_any _ o.rels W (by omega) (IsRels.ext d3' (g1.trans hW)) (small_rels HE.out))
      clear hB ho hsz he e1 f1 e2 q1 q2 q3
      obtain ⟨A7, c7, rfl, -, -, tb1'⟩ := tb1.form
      have CW := hx (fun (W : World) (u1 u2 u3 u4 u5 : Value) (k1 : IsB W u1 o.code) (k2 : IsB W u2 (b4 (defN o.maps))) (k3 : IsB W u3 (b4 (symN 0 (offsOf 1 (namesOf o))))) (k4 : IsB W u4 (b4 (relN o.rels))) (k5 : IsB W u5 (tabOf (namesOf o))) => box_Write_any _ (secsOf o) _ (by simp [secsOf]) (secs5 W 47 u1 u2 u3 u4 u5 _ _ _ _ _ k1 k2 k3 k4 k5))
      have hlA : Hx ((b4 (defN o.maps)).length ≤ 281474976710656) := ⟨by rw [b4_length, defN_length]; omega⟩
      have hlB : Hx ((b4 (symN 0 (offsOf 1 (namesOf o)))).length ≤ 281474976710656) := ⟨by rw [b4_length, symN_length, offsOf_length]; simp [namesOf]; omega⟩
      have hlC : Hx ((b4 (relN o.rels)).length ≤ 281474976710656) := ⟨by rw [b4_length, relN_length]; omega⟩
      have hd : Ext w2 w2.drew := (Ext.refl w2).drew
      go_wp2_with fail
      go_region_held3 (fun w' => w'.cell? ⟨w.heap.size, 1, none⟩ = some (.slice A2 o.code.length c2) ∧ w'.cell? ⟨w.heap.size, 0, none⟩ = some (.slice A1 o.maps.length c1) ∧ w'.cell? ⟨w.heap.size, 2, none⟩ = some (.slice A3 o.rels.length c3)) (first | exact ⟨r2, r1, r3⟩ | exact ⟨Ext.cell (by assumption) r2, Ext.cell (by assumption) r1, Ext.cell (by assumption) r3⟩ | exact ⟨Ext.cell (Ext.alloc (by assumption) _) r2, Ext.cell (Ext.alloc (by assumption) _) r1, Ext.cell (Ext.alloc (by assumption) _) r3⟩)
        (first | (go_at_call 48; refine (C1.out _ (by assumption)).mono ?_; rintro e wA ⟨vA, rfl, oA, eA⟩; have fA : Ext w2 wA := Ext.trans (by assumption) eA; obtain ⟨XA, yA, rfl⟩ := oA.slice) | (go_at_call 50; refine (C2.out _ (by assumption)).mono ?_; rintro e wB ⟨vB, rfl, oB, eB⟩; have fB : Ext w2 wB := Ext.trans (by assumption) eB; obtain ⟨XB, yB, rfl⟩ := oB.slice) | (go_at_call 52; refine (C3.out _ (by assumption)).mono ?_; rintro e wC ⟨vC, rfl, oC, eC⟩; have fC : Ext w2 wC := Ext.trans (by assumption) eC; obtain ⟨XC, yC, rfl⟩ := oC.slice) | (go_at_call 47; refine (CW.out _ _ _ _ _ _ (IsB.ext d2' (g1.trans (by assumption))) (OwnB.read (Own.ext (by assumption) (Ext.trans (by assumption) (by assumption))) (b4_byt _) (hlA.out)) (OwnB.read (Own.ext (by assumption) (by assumption)) (b4_byt _) (hlB.out)) (OwnB.read (by assumption) (b4_byt _) (hlC.out)) (IsB.ext tb1' (by assumption))).mono ?_; rintro e wD ⟨vD, rfl, iD, eD⟩; have fD : Ext w2 wD := Ext.trans (Ext.alloc (by assumption) _) eD))
      go_wp2
      go_ret2
      rw [secs_ok HE.out]
      exact ⟨vD, rfl, by rw [hP.out, ← pk_ok HE.out]; exact iD, g1.trans fD⟩
end Go.Proofs.YtiaddncjghkajaaGreatDoor


set_option linter.unusedVariables false
set_option linter.unusedSimpArgs false
namespace Go.Proofs.YtiaddncjghkajaaGreatDoor
open Go.RowKit Go.Lib

set_option maxRecDepth 20000 in
set_option maxHeartbeats 1000000 in
theorem object_Size_any (v : Value) (o : Ob) (w : World) (h : IsOb w v o) (hm : o.maps.length ≤ 100000) (hr : o.rels.length ≤ 1000000) (hG : Glob w) (hN : NoneV w) :
    Calls Tryz.prog 18 #[v] w fun e w' => e = .returned (.int .i64 (pkOut o).length) ∧ Ext w w' := by
  obtain ⟨v1, v2, v3, rfl, d1, d2, d3⟩ := id h
  obtain ⟨A1, c1, rfl, -, -, d1'⟩ := d1.form
  obtain ⟨A2, c2, rfl, -, hcl, d2'⟩ := d2.form
  obtain ⟨A3, c3, rfl, -, -, d3'⟩ := d3.form
  have e0 := Ext.new w (.cells #[.slice A1 o.maps.length c1, .slice A2 o.code.length c2, .slice A3 o.rels.length c3] 26)
  have hP := object_Pack_any _ o _ (h.ext e0) hm hr (hG.ext e0) (hN.ext e0)
  clear h d1 d2 d3 hcl
  go_enter Tryz.func18, Tryz.ntmps18
  go_wp2_with (first | (go_at_call 17; refine hP.mono ?_; rintro e w1 ⟨v', rfl, i1, e1⟩; obtain ⟨A7, c7, rfl, -, -, i1'⟩ := i1.form))
  go_ret
  exact ⟨rfl, e0.trans e1⟩
end Go.Proofs.YtiaddncjghkajaaGreatDoor
