/- The layer object: rows, at numbers. -/
import Derived.Test.YtmofdnlefjfcfaaGreatDoorJObj
import Derived.Deep.RegionWith
import Derived.Deep.RegionHeld3
import Derived.Test.YtmofdnlefjfcfaaGreatDoorJRefChkE
import Derived.BigRegionIn
set_option linter.unusedVariables false
set_option linter.unusedSimpArgs false
namespace Go.Proofs.YtmofdnlefjfcfaaGreatDoor
open Go.RowKit Go.Lib

theorem symN_app (a b : List Int) : ∀ i, symN i (a ++ b) = symN i a ++ symN (i + a.length) b := by
 induction a with
 | nil => intro i; simp [symN]
 | cons o a ih => intro i; simp [symN, ih]; congr 1; omega
theorem symN_mem (pre suf : List Int) (x y : Int) (h : y ∈ [x, (pre.length : Int)]) : y ∈ symN 0 (pre ++ x :: suf) := by
 rw [symN_app, symN]
 refine List.mem_append_right _ ?_
 simp at h ⊢
 rcases h with h | h
 ·exact .inl h
 ·exact .inr (.inl h)

set_option maxRecDepth 20000 in
set_option maxHeartbeats 1000000 in
theorem pack2_any (i : Int) (d : Int) (w : World) :
  Calls Tryz.prog 30 #[.int .i64 i, .int .i64 d] w fun e w' => ∃ g, e = .returned (.slice (some ⟨g, 0, none⟩) 2 2) ∧ RowI w' g [d, i] ∧ Ext w w' := by
 go_enter Tryz.func30, Tryz.ntmps30
 go_wp2
 go_ret
 exact ⟨_, rfl, heap_alloc_new w (.cells #[.int .i64 d, .int .i64 i] 3), Ext.new _ _⟩

set_option maxRecDepth 20000 in
set_option maxHeartbeats 4000000 in
theorem rowsI_any (v : Value) (l : List Int) (w : World) (hl : l.length ≤ 1000000) (hv : IsInts w v l) (hs : Small (symN 0 l)) :
  Calls Tryz.prog 29 #[v, .func (.func 30) #[] #[]] w fun e w' => ∃ v', e = .returned v' ∧ OwnB w' w.heap.size v' (b4 (symN 0 l)) ∧ Ext w w' := by
 obtain ⟨A, c, rfl, -, -, hv'⟩ := hv.form
 have HS := hx hs
 clear hs hv
 go_enter Tryz.func29, Tryz.ntmps29
 go_wp2
 go_loopw [13, 5] (fun i u wr => ∃ (pre suf : List Int) (L : List Int), l = pre ++ suf ∧ i = .int .i64 (pre.length : Nat) ∧ L = b4 (symN 0 pre) ∧ L.length = 8 * pre.length ∧ OwnB wr w.heap.size u L ∧ Ext w wr) (fun i _ _ => l.length - (RowKit.intOf i).toNat)
 case atStart => exact ⟨[], l, [], rfl, rfl, rfl, rfl, Own.nil _ _ _ _ _, Ext.refl _⟩
 case round =>
  obtain ⟨pre, suf, L, hl', rfl, hL, hLn, ho, he⟩ := hrel
  have HL := hx hL
  have HLn := hx hLn
  clear hL hLn
  have hpl : pre.length ≤ 1000000 := by have := congrArg List.length hl'; simp at this; omega
  cases suf with
  | cons x suf =>
   have hlt : pre.length < l.length := by rw [hl']; simp
   have hvx := hv'
   rw [hl'] at hvx
   obtain ⟨b, o, rfl, d1, hok⟩ := hvx.at
   replace d1 := he.cell d1
   rw [Nat.mul_one] at d1
   have HLl := hx hl'; clear hl' hvx
   have hc := fun W => pack2_any pre.length x W
   obtain ⟨A5, c5, rfl⟩ := ho.slice
   go_wp2_with (first | (go_at_call 30; refine (hc _).mono ?_; rintro e w2 ⟨g, rfl, i2, e2⟩))
   have ho2 := ho.ext e2
   replace e2 := he.trans e2
   clear hc ho d1 he
   obtain ⟨xs, hxs⟩ : ∃ xs, xs = [x, (pre.length : Int)] := ⟨_, rfl⟩
   have hsm : Small xs := fun y hy => HS.out y (by rw [HLl.out]; rw [hxs] at hy; exact symN_mem pre suf x y hy)
   have hxl : xs.length = 2 := by rw [hxs]; rfl
   rw [← hxs] at i2
   have HX := hx hxs
   have HSM := hx hsm
   clear hxs hsm
   have hfin : Hx (L ++ b4 xs = b4 (symN 0 (pre ++ [x]))) := ⟨by rw [HL.out, HX.out, ← b4_append, symN_snoc]; simp⟩
   obtain ⟨wo, rfl⟩ : ∃ wo : World, wo = w2 := ⟨_, rfl⟩
   go_loopw [23, 5] (fun j u wr2 => ∃ (p2 s2 : List Int) (L2 : List Int), xs = p2 ++ s2 ∧ j = .int .i64 (p2.length : Nat) ∧ L2 = L ++ b4 p2 ∧ L2.length = L.length + 4 * p2.length ∧ OwnB wr2 w.heap.size u L2 ∧ Ext w wr2 ∧ RowI wr2 g xs) (fun j _ _ => 2 - (RowKit.intOf j).toNat)
   case atStart => exact ⟨[], xs, L, rfl, rfl, by simp [b4], by simp, ho2, e2, i2⟩
   case round =>
    clear ho2 e2 i2
    obtain ⟨p2, s2, L2, hs2, rfl, hL2, hLn2, ho, he, ii⟩ := hrel
    have HL2 := hx hL2
    have HLn2 := hx hLn2
    clear hL2 hLn2
    have hp2 : p2.length ≤ 2 := by have := congrArg List.length hs2; simp at this; omega
    cases s2 with
    | cons y s2 =>
     have hlt4 : p2.length < 2 := by have := congrArg List.length hs2; simp at this; omega
     have hlt2 : decide ((p2.length : Int) < 2) = true := by simp; omega
     have hy := HSM.out y (by rw [hs2]; simp)
     obtain ⟨hy0, hy1⟩ := hy
     have t1 := ii.cell (i := p2.length) (y := y) (by rw [hs2]; simp)
     have HS2 := hx hs2
     clear hs2
     go_wp2
     go_loopw [10, 5] (fun s u wr3 => ∃ (k : Nat) (L3 : List Int), k ≤ 4 ∧ s = .int .i64 (8 * (k : Int)) ∧ L3 = L2 ++ le k y ∧ L3.length = L2.length + k ∧ OwnB wr3 w.heap.size u L3 ∧ Ext w wr3 ∧ RowI wr3 g xs) (fun s _ _ => 32 - (RowKit.intOf s).toNat)
     case atStart => exact ⟨0, L2, by omega, rfl, by simp [le], rfl, ho, he, ii⟩
     case round =>
      clear ho he ii t1
      obtain ⟨k, L3, hk, rfl, hL3, hLn3, ho, he, ii⟩ := hrel
      have HL3 := hx hL3
      have HLn3 := hx hLn3
      clear hL3 hLn3
      obtain ⟨A6, c6, rfl⟩ := ho.slice
      have hsz := he.size
      by_cases hk4 : k < 4
      ·have hk5 : decide (8 * (k : Int) < 32) = true := by simp; omega
       have hln : L3.length ≤ 100000000 := by have := HLn3.out; have := HLn2.out; have := HLn.out; omega
       go_wp2_with (at_builtin; refine wp_app1 tyB encB_ok ho (y / 2 ^ (8 * k) % 256) rfl rfl rfl rfl rfl (by omega) (by decide) (by omega) ?_; intro g1 cap w1 ho1 hg1 hat1 hbg1)
       have ii1 := ii.keep hg1 (ho.neI ii)
       have he1 := he.grown hg1 ho.base_le
       clear ho he ii hg1
       go_roundw
       case rel => exact ⟨k + 1, L3 ++ [y / 2 ^ (8 * k) % 256], by omega, by simp; omega, by rw [HL3.out, le_step], by simp [HLn3.out]; omega, ho1, he1, ii1⟩
       case measure => simp [RowKit.intOf]; omega
      ·obtain rfl : k = 4 := by omega
       go_wp2
       go_roundw
       case rel => exact ⟨p2 ++ [y], s2, L3, by simp [HS2.out], by simp, by rw [HL3.out, HL2.out, List.append_assoc, b4_append]; simp [b4], by simp [HLn3.out, HLn2.out]; omega, ho, he, ii⟩
       case measure => simp [RowKit.intOf]; omega
    | nil =>
     have hlt2 : ¬ p2.length < 2 := by have := congrArg List.length hs2; simp at this; omega
     obtain rfl : xs = p2 := by simpa using hs2
     clear hs2
     go_wp2
     go_roundw
     case rel => exact ⟨pre ++ [x], suf, L2, by simp [HLl.out], by simp, by rw [HL2.out, hfin.out], by simp [HLn2.out, HLn.out, hxl]; omega, ho, he⟩
     case measure => simp [RowKit.intOf]; omega
  | nil =>
   obtain rfl : l = pre := by simpa using hl'
   clear hl'
   have hlt : ¬ l.length < l.length := by omega
   go_wp2
   go_ret
   exact ⟨_, rfl, by rw [← HL.out]; exact ho, he⟩
end Go.Proofs.YtmofdnlefjfcfaaGreatDoor


set_option linter.unusedVariables false
set_option linter.unusedSimpArgs false
namespace Go.Proofs.YtmofdnlefjfcfaaGreatDoor
open Go.RowKit Go.Lib

theorem small_defs {o : Ob} (h : obE o = 0) : Small (defN o.maps) := by
 intro x hx
 obtain ⟨d, hd, hx⟩ := List.mem_flatMap.1 hx
 have := (mapE_parts ((mapsE_parts (obE_parts h).1).1 d hd)).2
 simp only [sizesB, decide_eq_true_eq] at this
 simp at hx
 rcases hx with rfl | rfl | rfl | rfl <;> omega
theorem small_rels {o : Ob} (h : obE o = 0) : Small (relN o.rels) := by
 intro x hx
 obtain ⟨d, hd, hx⟩ := List.mem_flatMap.1 hx
 obtain ⟨h1, h2, h3, h4, h5⟩ := obE_parts h
 have h6 := (mapsE_parts h1).2.1
 have := (rels_len _ _ _ _ h5 (by omega)).2 d hd
 simp at hx
 rcases hx with rfl | rfl <;> omega
theorem symN_vals (l : List Int) : ∀ (i : Nat) (x : Int), x ∈ symN i l → x ∈ l ∨ (0 ≤ x ∧ x ≤ i + l.length) := by
 induction l with
 | nil => intro i x h; simp [symN] at h
 | cons o l ih =>
  intro i x h
  simp only [symN, List.mem_cons] at h
  rcases h with rfl | rfl | h
  ·simp
  ·right; simp; omega
  ·rcases ih _ _ h with h | h
   ·left; simp [h]
   ·right; simp only [List.length_cons]; omega
theorem small_syms {o : Ob} (h : obE o = 0) : Small (symN 0 (offsOf 1 (namesOf o))) := by
 intro x hx
 obtain ⟨g1, g2, g3⟩ := names_good h
 have ht : tlen (namesOf o) ≤ 8415 := Nat.le_trans (tlen_le g2) (by omega)
 rcases symN_vals _ _ _ hx with h | h
 ·have := offsOf_bd 1 (namesOf o) x h; omega
 ·rw [offsOf_length] at h; omega

theorem secs5 (W : World) (t : TypeId) (u1 u2 u3 u4 u5 : Value) (x1 x2 x3 x4 x5 : List Int) (h1 : IsB W u1 x1) (h2 : IsB W u2 x2) (h3 : IsB W u3 x3) (h4 : IsB W u4 x4) (h5 : IsB W u5 x5) :
  IsSecs (W.alloc (.cells #[.int .i64 1, u1, .int .i64 2, u2, .int .i64 3, u3, .int .i64 4, u4, .int .i64 5, u5] t)) (.slice (some ⟨W.heap.size, 0, none⟩) 5 5) [⟨1, x1⟩, ⟨2, x2⟩, ⟨3, x3⟩, ⟨4, x4⟩, ⟨5, x5⟩] := by
 have he := Ext.new W (.cells #[.int .i64 1, u1, .int .i64 2, u2, .int .i64 3, u3, .int .i64 4, u4, .int .i64 5, u5] t)
 refine ⟨_, 5, rfl, ⟨by simp, by simp [maxLen]⟩, by simp, (fun h => by cases h), fun i x hx => ⟨W.heap.size, 0, rfl, ?_⟩⟩
 have hb := fun (k : Int) => (show 1 ≤ k ∧ k ≤ 5 → I64 k from fun h => by unfold I64; omega)
 match i, hx with
 | 0, hx => obtain rfl := Option.some.inj hx; exact ⟨⟨by simp, hb 1 (by omega)⟩, u1, by simp, h1.ext he⟩
 | 1, hx => obtain rfl := Option.some.inj hx; exact ⟨⟨by simp, hb 2 (by omega)⟩, u2, by simp, h2.ext he⟩
 | 2, hx => obtain rfl := Option.some.inj hx; exact ⟨⟨by simp, hb 3 (by omega)⟩, u3, by simp, h3.ext he⟩
 | 3, hx => obtain rfl := Option.some.inj hx; exact ⟨⟨by simp, hb 4 (by omega)⟩, u4, by simp, h4.ext he⟩
 | 4, hx => obtain rfl := Option.some.inj hx; exact ⟨⟨by simp, hb 5 (by omega)⟩, u5, by simp, h5.ext he⟩
 | n + 5, hx => simp at hx

set_option maxRecDepth 20000 in
set_option maxHeartbeats 4000000 in
theorem object_Pack_any (v : Value) (o : Ob) (w : World) (h : IsOb w v o) (hm : o.maps.length ≤ 100000) (hr : o.rels.length ≤ 1000000) (hG : Glob w) (hN : NoneV w) :
  Calls Tryz.prog 9 #[v] w fun e w' => ∃ v', e = .returned (.tuple #[v', .int .i64 (obE o)]) ∧ IsB w' v' (pkOut o) ∧ Ext w w' := by
 obtain ⟨v1, v2, v3, rfl, d1, d2, d3⟩ := id h
 obtain ⟨A1, c1, rfl, -, -, d1'⟩ := d1.form
 obtain ⟨A2, c2, rfl, -, hcl, d2'⟩ := d2.form
 obtain ⟨A3, c3, rfl, -, -, d3'⟩ := d3.form
 obtain ⟨W0, hW0⟩ : ∃ W0, W0 = w.alloc (.cells #[.slice A1 o.maps.length c1, .slice A2 o.code.length c2, .slice A3 o.rels.length c3] 31) := ⟨_, rfl⟩
 have e0 : Ext w W0 := by rw [hW0]; exact Ext.new _ _
 have p1 : W0.cell? ⟨w.heap.size, 0, none⟩ = some (.slice A1 o.maps.length c1) := by rw [hW0]; simp
 have p2 : W0.cell? ⟨w.heap.size, 1, none⟩ = some (.slice A2 o.code.length c2) := by rw [hW0]; simp
 have p3 : W0.cell? ⟨w.heap.size, 2, none⟩ = some (.slice A3 o.rels.length c3) := by rw [hW0]; simp
 have hC := object_Check_any _ o W0 (h.ext e0) hm hr (hG.ext e0) (hN.ext e0)
 rw [hW0] at hC
 have HW0 := hx hW0
 clear hW0 h d1 d2 d3
 by_cases hE : obE o = 0
 case neg =>
  have hP : Hx (pkOut o = []) := ⟨by unfold pkOut; rw [if_neg hE]⟩
  have hn : (obE o != 0) = true := by simpa using hE
  clear hE
  generalize obE o = E at *
  go_enter Tryz.func9, Tryz.ntmps9
  go_wp2_with (first | (go_at_call 11; refine hC.mono ?_; rintro e w1 ⟨rfl, e1⟩; rw [← HW0.out] at e1; have k1 := e0.trans e1))
  go_ret2
  exact ⟨_, rfl, by rw [hP.out]; exact Sl.nil _, k1⟩
 rw [hE] at hC ⊢
 have hP : Hx (pkOut o = packOf o) := ⟨by unfold pkOut; rw [if_pos hE]⟩
 have HE := hx hE
 clear hE
 go_enter Tryz.func9, Tryz.ntmps9
 go_wp2_with (first | (go_at_call 11; refine hC.mono ?_; rintro e w1 ⟨rfl, e1⟩; rw [← HW0.out] at e1; have k1 := e0.trans e1; have q1 := e1.cell p1))
 clear hC
 have hpr := hx (obE_parts HE.out)
 have hml : o.maps.length ≤ 255 := (mapsE_parts hpr.out.1).2.1
 go_loopw [19, 5] (fun i u wr => ∃ (pre suf : List Def) (ns : List ByteArray), o.maps = pre ++ suf ∧ i = .int .i64 (pre.length : Nat) ∧ ns = pre.map (·.name) ∧ ns.length = pre.length ∧ OwnS wr w1.heap.size u ns ∧ Ext w1 wr) (fun i _ _ => o.maps.length - (RowKit.intOf i).toNat)
 case atStart => exact ⟨[], o.maps, [], rfl, rfl, rfl, rfl, Own.nil _ _ _ _ _, Ext.refl _⟩
 case round =>
  obtain ⟨pre, suf, ns, hl', rfl, hns, hnl, ho, he⟩ := hrel
  have HNS := hx hns
  have HNL := hx hnl
  clear hns hnl
  have hpl : pre.length ≤ 255 := by have := congrArg List.length hl'; simp at this; omega
  have he' := k1.trans he
  have hsz := he.size
  obtain ⟨A5, c5, rfl⟩ := ho.slice
  cases suf with
  | cons x suf =>
   have hlt : pre.length < o.maps.length := by rw [hl']; simp
   have hvx := d1'
   rw [hl'] at hvx
   obtain ⟨b, o', rfl, ⟨t1, t2, t3, t4⟩, -⟩ := hvx.at
   replace t1 := he'.cell t1
   replace t2 := he'.cell t2
   replace t3 := he'.cell t3
   replace t4 := he'.cell t4
   have HL := hx hl'; clear hl' hvx
   have o1 := ho.alloc (.cells #[.string x.name, .int .i64 x.key, .int .i64 x.val, .int .i64 x.ents] 65)
   go_wp2_with (at_builtin; refine wp_app1 tyS encS_ok o1 x.name rfl rfl rfl rfl (by rw [World.size_alloc]; rfl) (by simp; omega) (by decide) (by have := HNL.out; omega) ?_; intro g cap w2 o2 g2 a2 b2)
   have e2 := Ext.grown (he.alloc (.cells #[.string x.name, .int .i64 x.key, .int .i64 x.val, .int .i64 x.ents] 65)) g2 o1.base_le
   clear ho o1 he he'
   go_roundw
   case rel => exact ⟨pre ++ [x], suf, ns ++ [x.name], by simp [HL.out], by simp, by rw [HNS.out]; simp, by simp [HNL.out], o2, e2⟩
   case measure => simp [RowKit.intOf]; omega
  | nil =>
   obtain rfl : o.maps = pre := by simpa using hl'
   clear hl'
   have hlt : ¬ o.maps.length < o.maps.length := by omega
   have hng := names_good HE.out
   have hrd : IsStrs wr (.slice A5 ns.length c5) ns := ho.read (fun s hs => by
    have := hng.2.1 s (by rw [namesOf, ← HNS.out]; exact hs)
    omega) (by have := HNL.out; omega)
   have hB := strtab_Build_any _ ns wr (by have := HNL.out; omega) (fun s hs => hng.1 s (by rw [namesOf, ← HNS.out]; exact hs)) (fun s hs => by have := hng.2.1 s (by rw [namesOf, ← HNS.out]; exact hs); omega) hrd
   rw [show ns = namesOf o from HNS.out] at hB
   have hln : Hx (ns.length = (namesOf o).length) := ⟨by rw [show ns = namesOf o from HNS.out]⟩
   rw [← hln.out] at hB
   clear hrd hng
   have q1 := (e1.trans he).cell p1
   have q2 := (e1.trans he).cell p2
   have q3 := (e1.trans he).cell p3
   go_wp2_with (first | (go_at_call 25; refine hB.mono ?_; rintro e w2 ⟨tb, of, rfl, tb1, of1, e2⟩; have f1 := (e1.trans he).trans e2; have r1 := f1.cell p1; have r2 := f1.cell p2; have r3 := f1.cell p3))
   have g1 : Ext w w2 := e0.trans f1
   have C1 := hx (fun W (hW : Ext w2 W) => rowsD_any _ o.maps W (by omega) (IsDefs.ext d1' (g1.trans hW)) (small_defs HE.out))
   have C2 := hx (fun W (hW : Ext w2 W) => rowsI_any of _ W (by rw [offsOf_length]; rw [namesOf]; simp; omega) (IsInts.ext of1 hW) (small_syms HE.out))
   have C3 := hx (fun W (hW : Ext w2 W) => rowsR_any _ o.rels W (by omega) (IsRels.ext d3' (g1.trans hW)) (small_rels HE.out))
   clear hB ho hsz he e1 f1 e2 q1 q2 q3
   obtain ⟨A7, c7, rfl, -, -, tb1'⟩ := tb1.form
   have CW := hx (fun (W : World) (u1 u2 u3 u4 u5 : Value) (k1 : IsB W u1 o.code) (k2 : IsB W u2 (b4 (defN o.maps))) (k3 : IsB W u3 (b4 (symN 0 (offsOf 1 (namesOf o))))) (k4 : IsB W u4 (b4 (relN o.rels))) (k5 : IsB W u5 (tabOf (namesOf o))) => box_Write_any _ (secsOf o) _ (by simp [secsOf]) (secs5 W 71 u1 u2 u3 u4 u5 _ _ _ _ _ k1 k2 k3 k4 k5))
   have hlA : Hx ((b4 (defN o.maps)).length ≤ 281474976710656) := ⟨by rw [b4_length, defN_length]; omega⟩
   have hlB : Hx ((b4 (symN 0 (offsOf 1 (namesOf o)))).length ≤ 281474976710656) := ⟨by rw [b4_length, symN_length, offsOf_length]; simp [namesOf]; omega⟩
   have hlC : Hx ((b4 (relN o.rels)).length ≤ 281474976710656) := ⟨by rw [b4_length, relN_length]; omega⟩
   have hd : Ext w2 w2.drew := (Ext.refl w2).drew
   go_wp2_with fail
   go_region_held3 (fun w' => w'.cell? ⟨w.heap.size, 1, none⟩ = some (.slice A2 o.code.length c2) ∧ w'.cell? ⟨w.heap.size, 0, none⟩ = some (.slice A1 o.maps.length c1) ∧ w'.cell? ⟨w.heap.size, 2, none⟩ = some (.slice A3 o.rels.length c3)) (first | exact ⟨r2, r1, r3⟩ | exact ⟨Ext.cell (by assumption) r2, Ext.cell (by assumption) r1, Ext.cell (by assumption) r3⟩ | exact ⟨Ext.cell (Ext.alloc (by assumption) _) r2, Ext.cell (Ext.alloc (by assumption) _) r1, Ext.cell (Ext.alloc (by assumption) _) r3⟩)
    (first | (go_at_call 27; refine (C1.out _ (by assumption)).mono ?_; rintro e wA ⟨vA, rfl, oA, eA⟩; have fA : Ext w2 wA := Ext.trans (by assumption) eA; obtain ⟨XA, yA, rfl⟩ := oA.slice) | (go_at_call 29; refine (C2.out _ (by assumption)).mono ?_; rintro e wB ⟨vB, rfl, oB, eB⟩; have fB : Ext w2 wB := Ext.trans (by assumption) eB; obtain ⟨XB, yB, rfl⟩ := oB.slice) | (go_at_call 31; refine (C3.out _ (by assumption)).mono ?_; rintro e wC ⟨vC, rfl, oC, eC⟩; have fC : Ext w2 wC := Ext.trans (by assumption) eC; obtain ⟨XC, yC, rfl⟩ := oC.slice) | (go_at_call 26; refine (CW.out _ _ _ _ _ _ (IsB.ext d2' (g1.trans (by assumption))) (OwnB.read (Own.ext (by assumption) (Ext.trans (by assumption) (by assumption))) (b4_byt _) (hlA.out)) (OwnB.read (Own.ext (by assumption) (by assumption)) (b4_byt _) (hlB.out)) (OwnB.read (by assumption) (b4_byt _) (hlC.out)) (IsB.ext tb1' (by assumption))).mono ?_; rintro e wD ⟨vD, rfl, iD, eD⟩; have fD : Ext w2 wD := Ext.trans (Ext.alloc (by assumption) _) eD))
   go_wp2
   go_ret2
   rw [secs_ok HE.out]
   exact ⟨vD, rfl, by rw [hP.out, ← pk_ok HE.out]; exact iD, g1.trans fD⟩
end Go.Proofs.YtmofdnlefjfcfaaGreatDoor


set_option linter.unusedVariables false
set_option linter.unusedSimpArgs false
namespace Go.Proofs.YtmofdnlefjfcfaaGreatDoor
open Go.RowKit Go.Lib

set_option maxRecDepth 20000 in
set_option maxHeartbeats 1000000 in
theorem object_Size_any (v : Value) (o : Ob) (w : World) (h : IsOb w v o) (hm : o.maps.length ≤ 100000) (hr : o.rels.length ≤ 1000000) (hG : Glob w) (hN : NoneV w) :
  Calls Tryz.prog 18 #[v] w fun e w' => e = .returned (.int .i64 (pkOut o).length) ∧ Ext w w' := by
 obtain ⟨v1, v2, v3, rfl, d1, d2, d3⟩ := id h
 obtain ⟨A1, c1, rfl, -, -, d1'⟩ := d1.form
 obtain ⟨A2, c2, rfl, -, hcl, d2'⟩ := d2.form
 obtain ⟨A3, c3, rfl, -, -, d3'⟩ := d3.form
 have e0 := Ext.new w (.cells #[.slice A1 o.maps.length c1, .slice A2 o.code.length c2, .slice A3 o.rels.length c3] 31)
 have hP := object_Pack_any _ o _ (h.ext e0) hm hr (hG.ext e0) (hN.ext e0)
 clear h d1 d2 d3 hcl
 go_enter Tryz.func18, Tryz.ntmps18
 go_wp2_with (first | (go_at_call 9; refine hP.mono ?_; rintro e w1 ⟨v', rfl, i1, e1⟩; obtain ⟨A7, c7, rfl, -, -, i1'⟩ := i1.form))
 go_ret
 exact ⟨rfl, e0.trans e1⟩
end Go.Proofs.YtmofdnlefjfcfaaGreatDoor


set_option linter.unusedVariables false
set_option linter.unusedSimpArgs false
namespace Go.Proofs.YtmofdnlefjfcfaaGreatDoor
open Go.RowKit Go.Lib Go.Shelf Go.Proofs
attribute [local go_sem] Oper.semAt_some

def encCh (A : Option Addr) (r : Nat) {q : Nat} (j : Fin q) : Array Value := #[.slice (A.map fun a => a.add (j.1 * r)) r r]
def rg (q k : Nat) : List (Fin q) := (List.finRange q).take k
theorem rg_succ {q k : Nat} (h : k < q) : rg q (k + 1) = rg q k ++ [⟨k, h⟩] := by
 unfold rg
 rw [List.take_succ_eq_append_getElem (by simpa using h)]
 simp
theorem rg_all (q : Nat) : rg q q = List.finRange q := by unfold rg; rw [List.take_of_length_le (by simp)]
theorem rg_length {q k : Nat} (h : k ≤ q) : (rg q k).length = k := by unfold rg; rw [List.length_take, List.length_finRange]; omega
def KpC (n₀ B : Nat) (W W' : World) : Prop := Below n₀ W W' ∧ W'.heap[B]? = W.heap[B]? ∧ W'.heap[B + 1]? = W.heap[B + 1]?
theorem KpC.trans {n₀ B : Nat} {W W1 W2 : World} (h : KpC n₀ B W W1) (k : KpC n₀ B W1 W2) : KpC n₀ B W W2 := ⟨h.1.trans k.1, k.2.1.trans h.2.1, k.2.2.trans h.2.2⟩
set_option maxRecDepth 100000 in
set_option maxHeartbeats 1000000 in
theorem chunk1_in (n : Nat) (hn : 2 ≤ n) (l B n₀ : Nat) (A : Option Addr) (m c r q : Nat) (hm : m ≤ 1000000000) (hc : m ≤ c) (hr0 : 0 < r) (hr1 : r ≤ 1000) (hq : m = q * r) (J Jx : List (Fin q) → World → Prop)
  (hY : ∀ pre x W, J pre W → pre.length < q → YieldAt Fence.wide (n - 1) Tryz.prog l (encCh A r x) W fun e W' =>
   (e = .returned (.bool true) ∧ J (pre ++ [x]) W' ∧ KpC n₀ B W W') ∨ (e = .returned (.bool false) ∧ Jx (pre ++ [x]) W'))
  (n₁ : Nat) (hJ : AbidesFrom n₁ J)
  (W : World) (hB : Boxed W B 28 (.slice A m c)) (hB1 : Boxed W (B + 1) 3 (.int .i64 r)) (h0 : J [] W) :
  CallsIn Fence.wide n Tryz.prog 100 #[.func (.yield l) #[] #[], .pointer (some ⟨B, 0, none⟩), .pointer (some ⟨B + 1, 0, none⟩)] W fun e W' => (∃ v, e = .returned v) ∧
   ((∃ ys, ys = List.finRange q ∧ J ys W') ∨ (∃ pre, pre <+: List.finRange q ∧ Jx pre W')) := by
 refine callsIn_of_wp Tryz.func100 rfl trivial ?_ rfl
 simp only [Tryz.ntmps100, List.size_toArray, List.length_cons, List.length_nil, Nat.reduceAdd, Nat.reduceSub, Array.replicate_succ, Array.replicate_zero, List.push_toArray, List.append_toArray, List.nil_append, List.cons_append]
 have h1n : 1 ≤ n := by omega
 gi_wp2
 gi_loopw [4] (fun a wr => ∃ (k i : Nat), a = .int .i64 i ∧ i = k * r ∧ k ≤ q ∧ i ≤ m ∧ J (rg q k) wr ∧ Boxed wr B 28 (.slice A m c) ∧ Boxed wr (B + 1) 3 (.int .i64 r))
  (fun a wr => m - (RowKit.intOf a).toNat)
 case atStart => exact ⟨0, 0, rfl, by simp, by omega, by omega, h0, hB, hB1⟩
 case round =>
  obtain ⟨k, i, rfl, hi, hkq, him, hJ1, hBx, hBy⟩ := hrel
  have HI := hx hi
  clear hi
  have hcell := hBx.cell
  have hcell1 := hBy.cell
  by_cases hlt : i < m
  ·have hk : k < q := by
    refine Nat.lt_of_mul_lt_mul_right (a := r) ?_
    rw [← HI.out, ← hq]; exact hlt
   have hir : i + r ≤ m := by
    have : (k + 1) * r ≤ q * r := Nat.mul_le_mul_right _ hk
    rw [Nat.add_mul] at this; have := HI.out; omega
   have HQ := hx hq
   clear hq
   have hmin : min (r : Int) ((m - i : Nat) : Int) = r := by omega
   have hJ2 := hJ (rg q k) wr wr.drew none hJ1 ((Ext.refl wr).drew.toGrown none) (fun r h => by cases h)
   have hYk : ∀ W1, J (rg q k) W1 → YieldAt Fence.wide (n - 1) Tryz.prog l #[.slice (A.map fun a => a.add i) r r] W1 fun e W' =>
     (e = .returned (.bool true) ∧ J (rg q (k + 1)) W' ∧ KpC n₀ B W1 W') ∨ (e = .returned (.bool false) ∧ Jx (rg q (k + 1)) W') := fun W1 h => by
    have := hY (rg q k) ⟨k, hk⟩ W1 h (by rw [rg_length (by omega)]; exact hk)
    rw [← rg_succ] at this
    rw [HI.out]; exact this
   obtain ⟨fn, tmps, assign, body, hy, hR⟩ := hYk wr.drew hJ2
   clear hYk
   have hB2 : Boxed wr.drew B 28 (.slice A m c) := hBx
   have hB3 : Boxed wr.drew (B + 1) 3 (.int .i64 r) := hBy
   have hz : 0 < c - i := by omega
   gi_wp2
   gi_region
   clear hmin
   gi_wp2
   refine hR.mono ?_
   rintro e W3 (⟨rfl, hJ3, hk3⟩ | ⟨rfl, hJx3⟩)
   ·have hBx3 : Boxed W3 B 28 (.slice A m c) := hk3.2.1.trans hB2
    have hBy3 : Boxed W3 (B + 1) 3 (.int .i64 r) := hk3.2.2.trans hB3
    have hcell3 := hBy3.cell
    gi_wp2
    go_roundw
    case rel => exact ⟨k + 1, i + r, by simp, by rw [HI.out, Nat.add_mul]; omega, by omega, by omega, hJ3, hBx3, hBy3⟩
    case measure => simp [RowKit.intOf]; omega
   ·gi_wp2
    refine bodyPost_ret (results_none rfl _ _ _) rfl ?_
    exact ⟨⟨_, rfl⟩, .inr ⟨_, List.take_prefix _ _, hJx3⟩⟩
  ·have hk : k = q := by
    have h2 := HI.out
    have h3 : k * r = q * r := by omega
    exact Nat.eq_of_mul_eq_mul_right hr0 h3
   subst hk
   clear hq
   gi_wp2
   go_end0
   exact ⟨⟨_, rfl⟩, .inl ⟨_, rg_all _, hJ1⟩⟩

theorem chunk_stops (n : Nat) (hn : 2 ≤ n) (B : Nat) (A : Option Addr) (m c r q : Nat) (hm : m ≤ 1000000000) (hc : m ≤ c) (hr0 : 0 < r) (hr1 : r ≤ 1000) (hq : m = q * r) (w : World) (n₀ : Nat)
  (hB : Boxed w B 28 (.slice A m c)) (hBl : B < w.heap.size) (hB1 : Boxed w (B + 1) 3 (.int .i64 r)) (hBl1 : B + 1 < w.heap.size) :
  SeqStopsK Fence.wide n Tryz.prog 100 #[.pointer (some ⟨B, 0, none⟩), .pointer (some ⟨B + 1, 0, none⟩)] (encCh A r) (KpC n₀ B) (fun ys => ys = List.finRange q) (fun pre => pre <+: List.finRange q) q w := fun l J Jx W hW hJ _ hY h0 =>
 chunk1_in n hn l B n₀ A m c r q hm hc hr0 hr1 hq J Jx hY W.heap.size hJ W ((Below.block hW B hBl).trans hB) ((Below.block hW (B + 1) hBl1).trans hB1) h0
theorem chunk_in (F : Fence) (n : Nat) (hF : F.fn 70) (hro : F.round = none) (A : Option Addr) (m c r : Nat) (hr0 : 0 < r) (hr1 : r ≤ 1000) (w : World) :
  CallsIn F n Tryz.prog 70 #[.slice A m c, .int .i64 r] w fun e w' => e = .returned (.func (.func 100) #[] #[.pointer (some ⟨w.heap.size, 0, none⟩), .pointer (some ⟨w.heap.size + 1, 0, none⟩)]) ∧
   w' = (w.alloc (.cells #[.slice A m c] 28)).alloc (.cells #[.int .i64 r] 3) := by
 refine callsIn_of_wp Tryz.func70 rfl hF ?_ hro
 simp only [Tryz.ntmps70, List.size_toArray, List.length_cons, List.length_nil, Nat.reduceAdd, Nat.reduceSub, Array.replicate_succ, Array.replicate_zero, List.push_toArray, List.append_toArray, List.nil_append, List.cons_append]
 have hlt : ¬ ((r : Int) < 1) := by omega
 gi_wp2
 go_ret
 exact ⟨rfl, rfl⟩
end Go.Proofs.YtmofdnlefjfcfaaGreatDoor


set_option linter.unusedVariables false
set_option linter.unusedSimpArgs false
namespace Go.Proofs.YtmofdnlefjfcfaaGreatDoor
open Go.RowKit Go.Lib Go.Shelf Go.Proofs

/-- What may turn beside the caller's own variables: the iterator's variable B, and new blocks that are no cells. -/
def MayMove (n₀ B : Nat) (W : World) (row : Option Nat) : Prop := ∀ r, row = some r → r = B ∨ (n₀ ≤ r ∧ ∃ o : Obj, W.heap[r]? = some o ∧ o.isCells = false)
def StaysB {β : Type} (n₀ B : Nat) (I : β → World → Prop) : Prop := ∀ s W W' row, I s W → W.grownBy W' row → MayMove n₀ B W row → I s W'
def MovesB {β : Type} (B : Nat) (J : β → World → Prop) : Prop := ∀ s W W' row, J s W → W.grownBy W' row → (row = none ∨ row = some B) → J s W'
/-- An iterator that writes B. -/
def SeqB {α : Type} (F : Fence) (n : Nat) (P : Program) (gf : Nat) (lb : Array Value) (encs : α → Array Value) (Kp : World → World → Prop) (S Sp : List α → Prop) (B : Nat) (w0 : World) : Prop :=
 ∀ (l : Nat) (J Jx : List α → World → Prop) (W : World), Below w0.heap.size w0 W → W.heap[B]? = w0.heap[B]? → MovesB B J → MovesB B Jx →
  (∀ pre x W1, J pre W1 → Sp (pre ++ [x]) → YieldAt F (n - 1) P l (encs x) W1 fun e W' =>
   (e = .returned (.bool true) ∧ J (pre ++ [x]) W' ∧ Kp W1 W') ∨ (e = .returned (.bool false) ∧ Jx (pre ++ [x]) W')) →
  J [] W → CallsIn F n P gf (#[.func (.yield l) #[] #[]] ++ lb) W fun e W' => (∃ v, e = .returned v) ∧ ((∃ xs, S xs ∧ J xs W') ∨ (∃ pre, Sp pre ∧ Jx pre W'))
section
variable {F : Fence} {n : Nat} {P : Program}
theorem wpIn_rangeFunc_box {α : Type} {g : Operand} {ps : Array Tmp} {assign body : Code} {Q : Exit → Act → World → Prop} {a : Act} {w : World} (hro : F.round = none) (h1 : 1 ≤ n) {gf : Nat} {lb : Array Value}
  (hg : a.eval g = .func (.func gf) #[] lb) (hFg : F.fn gf) (eg : ∀ args w, (callFunc gf args).run P w = .ok (.enter gf args) w) {encs : α → Array Value} {Kp : World → World → Prop} {S Sp : List α → Prop} {B : Nat} (hB : B < w.heap.size)
  (hseq : SeqB F (n - 1) P gf lb encs Kp S Sp B w) (hKt : ∀ {A B C : World}, Kp A B → Kp B C → Kp A C)
  (hKb : ∀ (W : World) (l : Nat) (o o' : Obj), w.heap.size ≤ l → W.heap[l]? = some o → o.isCells = false → o.isWalk = false → Kp W (W.putObj l o')) (hps : ∀ x, (encs x).size = ps.size)
  (I : List α → World → Prop) (Ix : Code → List α → World → Prop) (hI : StaysB w.heap.size B I) (hIx : ∀ c, StaysB w.heap.size B (Ix c)) (h0 : I [] w) (Ax : List α → α → Act → World → Prop) (hAx : ∀ x a', StaysB w.heap.size B (fun pre W => Ax pre x a' W))
  (hassign : ∀ (l : Nat) (pre : List α) (x : α) (W : World), I pre W → Sp (pre ++ [x]) →
   assign.wpIn (F.inRound l) (n - 1 - 1) P (Exit.then (fun a' W1 => KeepsOthers W W1 ∧ Kp W W1 ∧ Ax pre x a' W1) (fun _ _ _ => False)) { tmps := (ps.zip (encs x)).foldl (fun t (p, v) => t.setIfInBounds p v) a.tmps, defers := [] } W)
  (hbody : ∀ (l : Nat) (pre : List α) (x : α) (a' : Act) (W : World), Ax pre x a' W → Sp (pre ++ [x]) → body.wpIn (F.inRound l) (n - 1 - 1) P (ownPostK Kp I Ix (pre ++ [x]) W) a' W)
  (hdone : ∀ (D : Nat) (xs : List α) (W : World), w.heap.size ≤ D → S xs → I xs W → W.heap[D]? = some (.deferred (some [])) → Q .normal { a with defers := { target := .collected D, args := #[] } :: a.defers } W)
  (hstop : ∀ (D : Nat) (c : Code) (pre : List α) (W : World), w.heap.size ≤ D → Sp pre → Ix c pre W → W.heap[D]? = some (.deferred (some [])) → c.wpIn F n P Q { a with defers := { target := .collected D, args := #[] } :: a.defers } W) :
  (Code.rangeFunc g ps assign body).wpIn F n P Q a w := by
 have alloc1 : ∀ {s : List α} {W : World} (o : Obj), I s W → I s (W.alloc o) := fun o h => hI _ _ _ none h (World.grownBy_alloc _ o none) (fun r e => by cases e)
 have put1 : ∀ {J : List α → World → Prop} {s : List α} {W : World} {l : Nat} {o : Obj} (o' : Obj), StaysB w.heap.size B J → J s W → w.heap.size ≤ l → W.heap[l]? = some o → o.isCells = false → J s (W.putObj l o') := fun o' hJ h hl ho hc =>
  hJ _ _ _ _ h (grownBy_putObj' _ _ o') (fun r e => by cases e; exact .inr ⟨hl, _, ho, hc⟩)
 refine wpIn_rangeFunc fun fn hfn => ?_
 rw [hro]
 obtain ⟨lp, hlp⟩ : ∃ lp : LoopState → Option Code → Loop, lp = fun st pe => { state := st, pending := pe, fn, tmps := a.tmps, params := ps, assign, body, defers := w.heap.size } := ⟨_, rfl⟩
 obtain ⟨V, hV⟩ : ∃ V, (w.alloc (.deferred (some []))).alloc (.loop (lp .ready none)) = V := ⟨_, rfl⟩
 have hVl : V.heap[w.heap.size + 1]? = some (.loop (lp .ready none)) := by
  have := World.alloc_heap_new (w.alloc (.deferred (some []))) (.loop (lp .ready none))
  rw [World.size_alloc] at this
  rw [← hV]; exact this
 have hVd : V.heap[w.heap.size]? = some (.deferred (some [])) := by
  rw [← hV]; exact (Below.heap_alloc _ _ _ (by simp)).trans (World.alloc_heap_new w _)
 have hVI : I [] V := by rw [← hV]; exact alloc1 _ (alloc1 _ h0)
 have hVb : Below w.heap.size w V := by rw [← hV]; exact ((Below.refl _ w).alloc (Nat.le_refl _) _).alloc (by simp) _
 refine ⟨w.heap.size + 1, [{ target := .collected w.heap.size, args := #[] }], V, { target := .fn (.func gf) lb, args := #[.func (.yield (w.heap.size + 1)) #[] #[]] }, V, gf, #[.func (.yield (w.heap.size + 1)) #[] #[]] ++ lb, V, ?_, ?_, ?_, ?_, fun _ => h1, ?_⟩
 ·rw [← hV, hlp]; exact run_enterLoop_outer _ _ _ _ _
 ·simp only [resolve, hg]
  simp [go_sem]
 ·intro f' hf'; simp [Target.leads] at hf'; subst hf'; exact hFg
 ·simp [invoke, go_sem, eg]
 have keep : ∀ {A C : World} {row : Option Nat} {k : Nat} {o : Obj}, A.heap[k]? = some o → w.heap.size ≤ k → A.grownBy C row → (row = none ∨ row = some B) → C.heap[k]? = some o := fun hk hw hg hr =>
  (hg.block _ (Array.getElem?_eq_some_iff.1 hk).1 (by rcases hr with rfl | rfl <;> simp; omega)).trans hk
 have may : ∀ {A : World} {row : Option Nat}, (row = none ∨ row = some B) → MayMove w.heap.size B A row := fun hr r e => by
  rcases hr with rfl | rfl
  ·cases e
  ·cases e; exact .inl rfl
 refine (hseq (w.heap.size + 1) (fun pre W => I pre W ∧ W.heap[w.heap.size + 1]? = some (.loop (lp .ready none)) ∧ W.heap[w.heap.size]? = some (.deferred (some [])))
  (fun pre W => ∃ c, Ix c pre W ∧ W.heap[w.heap.size + 1]? = some (.loop (lp .done (some c))) ∧ W.heap[w.heap.size]? = some (.deferred (some []))) V hVb (hVb.block B hB)
  (fun s A C row hs hg' hr => ⟨hI s A C row hs.1 hg' (may hr), keep hs.2.1 (by omega) hg' hr, keep hs.2.2 (Nat.le_refl _) hg' hr⟩)
  (fun s A C row hs hg' hr => by obtain ⟨c, hc, hl, hk⟩ := hs; exact ⟨c, hIx c s A C row hc hg' (may hr), keep hl (by omega) hg' hr, keep hk (Nat.le_refl _) hg' hr⟩)
  ?_ ⟨hVI, hVl, hVd⟩).mono ?_
 ·rintro pre x V0 ⟨hi0, hl0, hk0⟩ hlen
  have hy := run_yield (P := P) (args := encs x) hl0 (by rw [hlp]; exact hps x)
  rw [hlp] at hy
  refine ⟨fn, _, assign, body, hy, roundIn_of_wpIn hfn (wpIn_mono (hassign _ pre x V0 hi0 hlen) ?_)⟩
  rintro e0 a' W hp0
  cases e0 with
  | exit id => exact hp0.elim
  | ret => exact hp0.elim
  | goto t => exact hp0.elim
  | panic ch => exact hp0.elim
  | outgrown => exact hp0.elim
  | normal =>
  obtain ⟨hko, hkp0, hi⟩ := hp0
  have hl := hko.same _ _ hl0 rfl
  have hk := hko.same _ _ hk0 rfl
  have hlt : w.heap.size + 1 < W.heap.size := (Array.getElem?_eq_some_iff.1 hl).1
  refine ⟨_, run_beginRound hl (by rw [hlp]), ?_⟩
  obtain ⟨lb1, hlb1⟩ : ∃ o : Obj, o = .loop { lp .ready none with state := .busy } := ⟨_, rfl⟩
  have hbl : (W.putObj (w.heap.size + 1) lb1).heap[w.heap.size + 1]? = some lb1 := World.putObj_heap_same hlt
  have hbd : (W.putObj (w.heap.size + 1) lb1).heap[w.heap.size]? = some (.deferred (some [])) := (World.putObj_heap_other (by omega)).trans hk
  have hkp : Kp W (W.putObj (w.heap.size + 1) lb1) := hKb _ _ _ _ (by omega) hl rfl rfl
  rw [← hlb1]
  refine wpIn_mono (hbody _ pre x a' _ (put1 (J := fun pre W => Ax pre x a' W) _ (hAx x a') hi (by omega) hl rfl) hlen) ?_
  have fin : ∀ (jump : Option Code) (X : World), KeepsOthers (W.putObj (w.heap.size + 1) lb1) X →
    (Instr.endRound (w.heap.size + 1) jump).run P X = .ok (.bool jump.isNone) (X.putObj (w.heap.size + 1) (.loop (lp (if jump.isNone then .ready else .done) jump))) ∧ X.heap[w.heap.size + 1]? = some lb1 ∧
    (X.putObj (w.heap.size + 1) (.loop (lp (if jump.isNone then .ready else .done) jump))).heap[w.heap.size + 1]? = some (.loop (lp (if jump.isNone then .ready else .done) jump)) ∧
    (X.putObj (w.heap.size + 1) (.loop (lp (if jump.isNone then .ready else .done) jump))).heap[w.heap.size]? = some (.deferred (some [])) := fun jump X hX => by
   have hl3 := hX.same _ _ hbl (by rw [hlb1]; rfl)
   have hl4 := hl3
   rw [hlb1] at hl4
   have := run_endRound (P := P) jump hl4
   rw [hlp] at this ⊢
   exact ⟨this, hl3, World.putObj_heap_same (Array.getElem?_eq_some_iff.1 hl3).1, (World.putObj_heap_other (by omega)).trans (hX.same _ _ hbd rfl)⟩
  have hc1 : lb1.isCells = false := by rw [hlb1]; rfl
  have hc2 : lb1.isWalk = false := by rw [hlb1]; rfl
  rintro e b X hp
  cases e with
  | normal =>
   obtain ⟨hX, hkp3, hi3⟩ := hp
   obtain ⟨hr, q1, q2, q3⟩ := fin none X hX
   exact ⟨_, _, hr, .inl ⟨rfl, ⟨put1 _ hI hi3 (by omega) q1 hc1, q2, q3⟩, hKt (hKt hkp0 (hKt hkp hkp3)) (hKb _ _ _ _ (by omega) q1 hc1 hc2)⟩⟩
  | ret =>
   obtain ⟨hX, hi3⟩ := hp
   obtain ⟨hr, q1, q2, q3⟩ := fin (some .ret) X hX
   exact ⟨_, _, hr, .inr ⟨rfl, .ret, put1 _ (hIx _) hi3 (by omega) q1 hc1, q2, q3⟩⟩
  | exit id =>
   obtain ⟨hX, hi3⟩ := hp
   obtain ⟨hr, q1, q2, q3⟩ := fin (some (.exit id)) X hX
   exact ⟨_, _, hr, .inr ⟨rfl, .exit id, put1 _ (hIx _) hi3 (by omega) q1 hc1, q2, q3⟩⟩
  | goto t =>
   obtain ⟨hX, hi3⟩ := hp
   obtain ⟨hr, q1, q2, q3⟩ := fin (some (.goto t)) X hX
   exact ⟨_, _, hr, .inr ⟨rfl, .goto t, put1 _ (hIx _) hi3 (by omega) q1 hc1, q2, q3⟩⟩
  | panic ch => exact hp.elim
  | outgrown => exact hp.elim
 ·rintro e X ⟨⟨v, rfl⟩, (⟨xs, hS, hi, hl, hk⟩ | ⟨pre, hSp, c, hi, hl, hk⟩)⟩
  ·have hr := run_endLoop (P := P) hl (by rw [hlp]; simp)
   rw [hlp] at hr
   exact ⟨none, _, hr, hdone _ xs _ (Nat.le_refl _) hS (put1 _ hI hi (by omega) hl rfl) ((World.putObj_heap_other (by omega)).trans hk)⟩
  ·have hr := run_endLoop (P := P) hl (by rw [hlp]; simp)
   rw [hlp] at hr
   exact ⟨some c, _, hr, hstop _ c pre _ (Nat.le_refl _) hSp (put1 _ (hIx c) hi (by omega) hl rfl) ((World.putObj_heap_other (by omega)).trans hk)⟩
end
end Go.Proofs.YtmofdnlefjfcfaaGreatDoor
