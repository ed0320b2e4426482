/- The layer object: Pack of the reference. -/
import Derived.Test.YtiaddncjghkajaaGreatDoorJJoinR
import Derived.Deep.RegionHeld3
import Derived.Test.YtiaddncjghkajaaGreatDoorJOPar
set_option linter.unusedVariables false
set_option linter.unusedSimpArgs false
namespace Go.Proofs.YtiaddncjghkajaaGreatDoor
open Go.RowKit Go.Lib

/-- Two slices of the call's own lie in different blocks. -/
def Dis (u v : Value) : Prop := u.ownBlock = none ∨ u.ownBlock ≠ v.ownBlock
theorem Dis.grew {α : Type} {e : TypeId} {sz : Nat} {enc : α → List Value} {w w' : World} {base : Nat} {u v v' : Value} {l : List α} (h : Dis u v) (ho : Own e sz enc w base u l) (hg : Grew w w' v v') : Dis u v' := by
 rcases h with h | h
 ·exact .inl h
 ·rcases hg.2 with h2 | ⟨b, h2, h3⟩
  ·exact .inr (by rw [h2]; exact h)
  ·refine .inr fun e => ?_
   rw [h2] at e
   have := ho.lt _ e
   omega
theorem Dis.swap {u v : Value} (h : Dis u v) : Dis v u := by
 rcases h with h | h
 ·by_cases hv : v.ownBlock = none
  ·exact .inl hv
  ·exact .inr (by rw [h]; exact hv)
 ·exact .inr (Ne.symm h)
theorem Own.neT {α : Type} {e : TypeId} {sz : Nat} {enc : α → List Value} {w : World} {B g : Nat} {v : Value} {l : List α} {cs : Array Value} {t : TypeId} {fr : Nat × Nat} (h : Own e sz enc w B v l) (hne : e ≠ t) (k : w.heap[g]? = some (.cells cs t fr)) : some g ≠ v.ownBlock := by
 rcases h.2 with ⟨rfl, _⟩ | ⟨g', cap', cur', rfl, _, hh', _⟩
 ·simp [Value.ownBlock]
 ·intro he
  have : g = g' := by simpa [Value.ownBlock] using he
  subst this
  rw [hh'] at k
  injection k with k
  injection k with _ ht
  exact hne ht
/-- A definition's block. -/
def RowD (w : World) (g : Nat) (d : Def) : Prop := w.heap[g]? = some (.cells #[.string d.name, .int .i64 d.key, .int .i64 d.val, .int .i64 d.ents] 81 (0, 0))
theorem RowD.c1 {w : World} {g : Nat} {d : Def} (h : RowD w g d) : w.cell? ⟨g, 1, none⟩ = some (.int .i64 d.key) := by simp [World.cell?, show w.heap[g]? = _ from h]
theorem RowD.c2 {w : World} {g : Nat} {d : Def} (h : RowD w g d) : w.cell? ⟨g, 2, none⟩ = some (.int .i64 d.val) := by simp [World.cell?, show w.heap[g]? = _ from h]
theorem RowD.c3 {w : World} {g : Nat} {d : Def} (h : RowD w g d) : w.cell? ⟨g, 3, none⟩ = some (.int .i64 d.ents) := by simp [World.cell?, show w.heap[g]? = _ from h]
theorem RowD.grew {w w' : World} {g : Nat} {d : Def} {B : Nat} {v v' : Value} {l : List Int} (h : RowD w g d) (ho : OwnB w B v l) (hg : Grew w w' v v') : RowD w' g d :=
 (hg.1.block g (Array.getElem?_eq_some_iff.1 h).1 (ho.neT (by decide) h)).trans h

theorem secsOf_byt {o : Ob} (h : Byt o.code) : ∀ s ∈ secsOf o, Byt s.data := by
 intro s hs
 simp only [secsOf, List.mem_cons, List.not_mem_nil, or_false] at hs
 rcases hs with rfl | rfl | rfl | rfl | rfl
 ·exact h
 ·exact b4_byt _
 ·exact b4_byt _
 ·exact b4_byt _
 ·exact tabOf_byt _
theorem boxOf_len (l : List Sec) : (boxOf l).length = (secSize l).toNat := by have := boxOf_length l; omega
set_option maxRecDepth 40000 in
set_option maxHeartbeats 4000000 in
theorem ref16_Pack_any (v : Value) (o : Ob) (w : World) (h : IsOb w v o) (hE : obE o = 0) (hr : o.rels.length ≤ 1000000) :
  Calls Tryz.prog 20 #[v] w fun e w' => ∃ v', e = .returned v' ∧ IsB w' v' (packOf o) ∧ Ext w w' := by
 obtain ⟨v1, v2, v3, rfl, d1, d2, d3⟩ := id h
 obtain ⟨A1, c1, rfl, -, -, d1'⟩ := d1.form
 obtain ⟨A2, c2, rfl, -, hcl, d2'⟩ := d2.form
 obtain ⟨A3, c3, rfl, -, -, d3'⟩ := d3.form
 obtain ⟨W0, hW0⟩ : ∃ W0, W0 = w.alloc (.cells #[.slice A1 o.maps.length c1, .slice A2 o.code.length c2, .slice A3 o.rels.length c3] 26) := ⟨_, rfl⟩
 have e0 : Ext w W0 := by rw [hW0]; exact Ext.new _ _
 have p1 : W0.cell? ⟨w.heap.size, 0, none⟩ = some (.slice A1 o.maps.length c1) := by rw [hW0]; simp
 have p2 : W0.cell? ⟨w.heap.size, 1, none⟩ = some (.slice A2 o.code.length c2) := by rw [hW0]; simp
 have p3 : W0.cell? ⟨w.heap.size, 2, none⟩ = some (.slice A3 o.rels.length c3) := by rw [hW0]; simp
 have HE := hx hE
 clear d1 d2 d3 hE
 have hng := names_good HE.out
 have hml : o.maps.length ≤ 255 := by simpa [namesOf] using hng.2.2
 have hN := ref16_names_any _ o W0 (h.ext e0) (by omega)
 have hB := fun (v' : Value) (W : World) (hs : IsStrs W v' (namesOf o)) => ref14_Build_any v' (namesOf o) W (by omega) (fun s hs => by have := hng.2.1 s hs; omega) hs
 have HB := hx hB
 clear hB hng h
 rw [hW0] at hN
 have HW0 := hx hW0
 clear hW0
 go_enter Tryz.func20, Tryz.ntmps20
 go_wp2_with (first | (go_at_call 45; refine hN.mono ?_; rintro e w1 ⟨vn, rfl, sn, e1⟩; rw [← HW0.out] at e1) | (go_at_call 54; refine (HB.out _ _ sn).mono ?_; rintro e w2 ⟨tb, of, rfl, tb1, of1, e2⟩; replace e2 := e1.trans e2))
 clear hN
 have ew2 := e0.trans e2
 have q1 := e2.cell p1
 have q2 := e2.cell p2
 have q3 := e2.cell p3
 obtain ⟨A8, c8, rfl, -, -, of1'⟩ := of1.form
 obtain ⟨ofs, hofs⟩ : ∃ ofs, ofs = offsOf 1 (namesOf o) := ⟨_, rfl⟩
 have hol : ofs.length = o.maps.length := by rw [hofs, offsOf_length]; simp [namesOf]
 rw [← hofs] at of1' ⊢
 have hob : ∀ x ∈ ofs, 0 ≤ x ∧ x ≤ 100000 := by
  intro x hx
  have hng := names_good HE.out
  have ht : tlen (namesOf o) ≤ 8415 := Nat.le_trans (tlen_le hng.2.1) (by omega)
  rw [hofs] at hx
  have := offsOf_bd 1 (namesOf o) x hx
  omega
 rw [hol] at of1' ⊢
 have HOF := hx hofs
 have HOB := hx hob
 have HOL := hx hol
 clear hofs hob hol of1 sn e1
 have hsm := hx (small_defs HE.out)
 go_loopw [8, 5, 6] (fun i u5 u6 wr => ∃ (pre suf : List Def) (L5 L6 : List Int), o.maps = pre ++ suf ∧ i = .int .i64 (pre.length : Nat) ∧ L5 = b4 (defN pre) ∧ L6 = b4 (symN 0 (ofs.take pre.length)) ∧ L5.length = 16 * pre.length ∧ L6.length = 8 * pre.length ∧ OwnB wr w2.heap.size u5 L5 ∧ OwnB wr w2.heap.size u6 L6 ∧ Dis u5 u6 ∧ Ext w2 wr) (fun i _ _ _ => o.maps.length - (RowKit.intOf i).toNat)
 case atStart => exact ⟨[], o.maps, [], [], rfl, rfl, rfl, rfl, rfl, rfl, Own.nil _ _ _ _ _, Own.nil _ _ _ _ _, .inl rfl, Ext.refl _⟩
 case round =>
  obtain ⟨pre, suf, L5, L6, hl', rfl, h5, h6, n5, n6, o5, o6, ds, he⟩ := hrel
  have H5 := hx h5
  have H6 := hx h6
  have N5 := hx n5
  have N6 := hx n6
  clear h5 h6 n5 n6
  have hpl : pre.length ≤ 255 := by have := congrArg List.length hl'; simp at this; omega
  have hsz := he.size
  have ew := ew2.trans he
  have k1 := he.cell q1
  cases suf with
  | cons x suf =>
   have hlt : pre.length < o.maps.length := by rw [hl']; simp
   have hvx := d1'
   rw [hl'] at hvx
   obtain ⟨b, o', rfl, ⟨t1, t2, t3, t4⟩, -⟩ := hvx.at
   replace t1 := ew.cell t1
   replace t2 := ew.cell t2
   replace t3 := ew.cell t3
   replace t4 := ew.cell t4
   have hxs := hx (fun y (hy : y ∈ [x.key, x.val, x.ents, 0]) => hsm.out y (by rw [hl', defN, List.flatMap_append, List.flatMap_cons]; exact List.mem_append_right _ (List.mem_append_left _ hy)))
   have HL := hx hl'; clear hl' hvx
   go_wp2_with fail
   obtain ⟨C, hC⟩ : ∃ C : Obj, C = .cells #[.string x.name, .int .i64 x.key, .int .i64 x.val, .int .i64 x.ents] 81 := ⟨_, rfl⟩
   have eC : Ext wr (wr.alloc C).drew := (Ext.new wr C).drew
   have rC : RowD (wr.alloc C).drew wr.heap.size x := by rw [hC]; exact heap_alloc_new wr _
   have o5C := o5.ext eC
   have o6C := o6.ext eC
   have z1 : (wr.alloc C).cell? ⟨wr.heap.size, 1, none⟩ = some (.int .i64 x.key) := by rw [hC]; simp
   have z2 : (wr.alloc C).cell? ⟨wr.heap.size, 2, none⟩ = some (.int .i64 x.val) := by rw [hC]; simp
   have z3 : (wr.alloc C).cell? ⟨wr.heap.size, 3, none⟩ = some (.int .i64 x.ents) := by rw [hC]; simp
   have hszC : w2.heap.size ≤ (wr.alloc C).drew.heap.size := Nat.le_trans hsz eC.size
   have bK := hxs.out x.key (by simp)
   have bV := hxs.out x.val (by simp)
   have bN := hxs.out x.ents (by simp)
   have hL5 : L5.length ≤ 100000 := by have := N5.out; omega
   have F1 := hx (four_any u5 L5 w2.heap.size x.key (wr.alloc C).drew bK.1 bK.2 o5C hszC (by omega))
   have F2 := hx (fun (W : World) (vA : Value) (lA : List Int) (oA : OwnB W w2.heap.size vA lA) (hA : lA.length = L5.length + 4) (hs : w2.heap.size ≤ W.heap.size) => four_any vA lA w2.heap.size x.val W bV.1 bV.2 oA hs (by omega))
   have F3 := hx (fun (W : World) (vA : Value) (lA : List Int) (oA : OwnB W w2.heap.size vA lA) (hA : lA.length = L5.length + 8) (hs : w2.heap.size ≤ W.heap.size) => four_any vA lA w2.heap.size x.ents W bN.1 bN.2 oA hs (by omega))
   have F4 := hx (fun (W : World) (vA : Value) (lA : List Int) (oA : OwnB W w2.heap.size vA lA) (hA : lA.length = L5.length + 12) (hs : w2.heap.size ≤ W.heap.size) => four_any vA lA w2.heap.size 0 W (by omega) (by omega) oA hs (by omega))
   subst hC
   clear o5 o6 bK bV bN t1 t2 t3 t4
   go_region_held3 (fun w' => w'.cell? ⟨wr.heap.size, 1, none⟩ = some (.int .i64 x.key) ∧ w'.cell? ⟨wr.heap.size, 2, none⟩ = some (.int .i64 x.val) ∧ w'.cell? ⟨wr.heap.size, 3, none⟩ = some (.int .i64 x.ents)) (first | exact ⟨z1, z2, z3⟩ | exact ⟨RowD.c1 (by assumption), RowD.c2 (by assumption), RowD.c3 (by assumption)⟩)
    (first
     | (go_at_call 55; refine (F4.out _ _ _ oG nG sG).mono ?_; rintro e wH ⟨vH, lH, rfl, pH, mH, oH, gH⟩; have rH := rG.grew oG gH; have GH := GG.trans gH; have nH : lH.length = L5.length + 16 := (by rw [mH.out, nG]); have PH := hx (show lH = L5 ++ b4 [x.key, x.val, x.ents, 0] by rw [pH.out, PG.out]; simp [b4]))
     | (go_at_call 55; refine (F3.out _ _ _ oF nF sF).mono ?_; rintro e wG ⟨vG, lG, rfl, pG, mG, oG, gG⟩; have rG := rF.grew oF gG; have GG := GF.trans gG; have nG : lG.length = L5.length + 12 := (by rw [mG.out, nF]); have sG := Nat.le_trans sF gG.size; have PG := hx (show lG = L5 ++ b4 [x.key, x.val, x.ents] by rw [pG.out, PF.out]; simp [b4]))
     | (go_at_call 55; refine (F2.out _ _ _ oE nE sE).mono ?_; rintro e wF ⟨vF, lF, rfl, pF, mF, oF, gF⟩; have rF := rE.grew oE gF; have GF := gE.trans gF; have nF : lF.length = L5.length + 8 := (by rw [mF.out, nE]); have sF := Nat.le_trans sE gF.size; have PF := hx (show lF = L5 ++ b4 [x.key, x.val] by rw [pF.out, pE.out]; simp [b4]))
     | (go_at_call 55; refine F1.out.mono ?_; rintro e wE ⟨vE, lE, rfl, pE, mE, oE, gE⟩; have rE := rC.grew o5C gE; have nE : lE.length = L5.length + 4 := (by rw [mE.out]); have sE := Nat.le_trans hszC gE.size))
   have eH : Ext w2 wH := (he.trans eC).grew GH o5C.base_le
   have o6H := o6C.grew GH ds.swap
   have dsH := (ds.swap.grew o6C GH).swap
   have hH5 := hx (show lH = b4 (defN (pre ++ [x])) by rw [PH.out, H5.out, ← b4_append]; simp [defN])
   have hn5 := hx (show lH.length = 16 * (pre ++ [x]).length by rw [nH, N5.out]; simp; omega)
   clear oE oF oG rE rF rG rH gE gF gG gH GF GG GH pE pF pG pH mE mF mG mH nE nF nG nH sE sF sG PF PG PH F1 F2 F3 F4 rC o5C o6C eC z1 z2 z3
   obtain ⟨y, hy⟩ : ∃ y, ofs[pre.length]? = some y := ⟨_, List.getElem?_eq_getElem (by rw [HOL.out]; exact hlt)⟩
   obtain ⟨bo, oo, rfl, y1, -⟩ := of1'.get hy
   rw [Nat.mul_one] at y1
   replace y1 := eH.cell y1
   have hyb := HOB.out y (List.mem_of_getElem? hy)
   obtain ⟨hy0, hy1⟩ := hyb
   have HY := hx hy
   have hsH := eH.size
   have hL6 : L6.length ≤ 100000 := by have := N6.out; omega
   have F5 := hx (four_any u6 L6 w2.heap.size y wH hy0 (by omega) o6H hsH (by omega))
   have F6 := hx (fun (W : World) (vA : Value) (lA : List Int) (oA : OwnB W w2.heap.size vA lA) (hA : lA.length = L6.length + 4) (hs : w2.heap.size ≤ W.heap.size) => four_any vA lA w2.heap.size (pre.length : Int) W (by omega) (by omega) oA hs (by omega))
   clear hy
   go_wp2_with (first
    | (go_at_call 55; refine (F6.out _ _ _ oI nI sI).mono ?_; rintro e wJ ⟨vJ, lJ, rfl, pJ, mJ, oJ, gJ⟩)
    | (go_at_call 55; refine F5.out.mono ?_; rintro e wI ⟨vI, lI, rfl, pI, mI, oI, gI⟩; have nI : lI.length = L6.length + 4 := (by rw [mI.out]); have sI := Nat.le_trans hsH gI.size))
   have GJ := gI.trans gJ
   have eJ : Ext w2 wJ := eH.grew GJ o6H.base_le
   have o5J := oH.grew GJ dsH
   have dsJ := dsH.grew oH GJ
   have hl6 := hx (show lJ = b4 (symN 0 (ofs.take (pre.length + 1))) by
    rw [pJ.out, pI.out, H6.out, List.append_assoc, List.take_add_one, HY.out]
    simp only [Option.toList_some]
    rw [symN_snoc, b4_append, List.length_take, HOL.out, Nat.min_eq_left (by omega)]
    simp [b4])
   have hn6 := hx (show lJ.length = 8 * (pre ++ [x]).length by rw [mJ.out, nI, N6.out]; simp; omega)
   clear oI gI gJ nI sI o6H oH dsH eH
   go_roundw
   case rel => exact ⟨pre ++ [x], suf, lH, lJ, by simp [HL.out], by simp, hH5.out, by rw [hl6.out]; simp, hn5.out, hn6.out, o5J, oJ, dsJ, eJ⟩
   case measure => simp [RowKit.intOf]; omega
  | nil =>
   obtain rfl : o.maps = pre := by simpa using hl'
   clear hl'
   have hlt : ¬ o.maps.length < o.maps.length := by omega
   have i5 : IsB wr u5 L5 := o5.read (by rw [H5.out]; exact b4_byt _) (by have := N5.out; omega)
   have i6 : IsB wr u6 L6 := o6.read (by rw [H6.out]; exact b4_byt _) (by have := N6.out; omega)
   have hsr := hx (small_rels HE.out)
   obtain ⟨X5, y5, rfl, -, -, i5'⟩ := i5.form
   obtain ⟨X6, y6, rfl, -, -, i6'⟩ := i6.form
   clear o5 o6 ds i5 i6
   go_wp2
   obtain ⟨W6, rfl⟩ : ∃ W6 : World, W6 = wr := ⟨_, rfl⟩
   have k2 := he.cell q2
   have k3 := he.cell q3
   go_loopw [10, 7] (fun i u7 wr => ∃ (pre suf : List Rel) (L7 : List Int), o.rels = pre ++ suf ∧ i = .int .i64 (pre.length : Nat) ∧ L7 = b4 (relN pre) ∧ L7.length = 8 * pre.length ∧ OwnB wr W6.heap.size u7 L7 ∧ Ext W6 wr) (fun i _ _ => o.rels.length - (RowKit.intOf i).toNat)
   case atStart => exact ⟨[], o.rels, [], rfl, rfl, rfl, rfl, Own.nil _ _ _ _ _, Ext.refl _⟩
   case round =>
    clear hlt
    obtain ⟨pre, suf, L7, hl', rfl, h7, n7, o7, he2⟩ := hrel
    have H7 := hx h7
    have N7 := hx n7
    clear h7 n7
    have hpl2 : pre.length ≤ 1000000 := by have := congrArg List.length hl'; simp at this; omega
    have l3 := he2.cell k3
    have hsz2 := he2.size
    cases suf with
    | cons x suf =>
     have hlt : pre.length < o.rels.length := by rw [hl']; simp
     have hvx := d3'
     rw [hl'] at hvx
     obtain ⟨b, o', rfl, ⟨t1, t2⟩, hok⟩ := hvx.at
     have T1 := hx (show ∀ W, Ext W6 W → W.cell? ⟨w.heap.size, 2, none⟩ = some (.slice (some ⟨b, o', none⟩) o.rels.length c3) ∧ W.cell? ⟨b, o' + pre.length * 2, none⟩ = some (.int .i64 x.slot) ∧ W.cell? ⟨b, o' + pre.length * 2 + 1, none⟩ = some (.int .i64 x.sym) from fun W hW => ⟨hW.cell k3, hW.cell (ew.cell t1), hW.cell (ew.cell t2)⟩)
     replace t1 := (ew.trans he2).cell t1
     replace t2 := (ew.trans he2).cell t2
     have hxs := hx (fun y (hy : y ∈ [x.slot, x.sym]) => hsr.out y (by rw [hl', relN, List.flatMap_append, List.flatMap_cons]; exact List.mem_append_right _ (List.mem_append_left _ hy)))
     have HL := hx hl'; clear hl' hvx
     go_wp2_with fail
     have eC : Ext wr wr.drew := (Ext.refl wr).drew
     have o7C := o7.ext eC
     have hszC : W6.heap.size ≤ wr.drew.heap.size := hsz2
     have eW : Ext W6 wr.drew := he2.drew
     have bK := hxs.out x.slot (by simp)
     have bV := hxs.out x.sym (by simp)
     have hL7 : L7.length ≤ 100000000 := by have := N7.out; omega
     have j0 : (0 : Int) ≤ (pre.length : Int) := by omega
     have j1 : (pre.length : Int) < (o.rels.length : Int) := by omega
     have F1 := hx (four_any u7 L7 W6.heap.size x.slot wr.drew bK.1 bK.2 o7C hszC (by omega))
     have F2 := hx (fun (W : World) (vA : Value) (lA : List Int) (oA : OwnB W W6.heap.size vA lA) (hA : lA.length = L7.length + 4) (hs : W6.heap.size ≤ W.heap.size) => four_any vA lA W6.heap.size x.sym W bV.1 bV.2 oA hs (by omega))
     clear o7 bK bV hsz2
     go_region_held3 (fun w' => w'.cell? ⟨w.heap.size, 2, none⟩ = some (.slice (some ⟨b, o', none⟩) o.rels.length c3) ∧ w'.cell? ⟨b, o' + pre.length * 2, none⟩ = some (.int .i64 x.slot) ∧ w'.cell? ⟨b, o' + pre.length * 2 + 1, none⟩ = some (.int .i64 x.sym)) (first | exact ⟨l3, t1, t2⟩ | exact T1.out _ (by assumption))
      (first
       | (go_at_call 55; refine (F2.out _ _ _ oE nE sE).mono ?_; rintro e wF ⟨vF, lF, rfl, pF, mF, oF, gF⟩; have GF := gE.trans gF; have eF := eW.grew GF o7C.base_le)
       | (go_at_call 55; refine F1.out.mono ?_; rintro e wE ⟨vE, lE, rfl, pE, mE, oE, gE⟩; have nE : lE.length = L7.length + 4 := (by rw [mE.out]); have sE := Nat.le_trans hszC gE.size; have eE := eW.grew gE o7C.base_le))
     have hl7 := hx (show lF = b4 (relN (pre ++ [x])) by rw [pF.out, pE.out, H7.out, List.append_assoc]; simp [b4, relN])
     have hn7 := hx (show lF.length = 8 * (pre ++ [x]).length by rw [mF.out, nE, N7.out]; simp; omega)
     go_wp2
     go_roundw
     case rel => exact ⟨pre ++ [x], suf, lF, by simp [HL.out], by simp, hl7.out, hn7.out, oF, eF⟩
     case measure => simp [RowKit.intOf]; omega
    | nil =>
     obtain rfl : o.rels = pre := by simpa using hl'
     clear hl'
     have hlt : ¬ o.rels.length < o.rels.length := by omega
     have i7 : IsB wr u7 L7 := o7.read (by rw [H7.out]; exact b4_byt _) (by have := N7.out; omega)
     obtain ⟨X7, y7, rfl, -, -, i7'⟩ := i7.form
     obtain ⟨Xt, yt, rfl, -, -, tb'⟩ := tb1.form
     have l2 := he2.cell k2
     have E2 := ew2.trans (he.trans he2)
     have hsec := secs5 wr 99 _ _ _ _ _ _ _ _ _ _ (IsB.ext d2' E2) (IsB.ext i5' he2) (IsB.ext i6' he2) i7' (IsB.ext tb' (he.trans he2))
     have hso := hx (show [(⟨1, o.code⟩ : Sec), ⟨2, L5⟩, ⟨3, L6⟩, ⟨4, L7⟩, ⟨5, tabOf (namesOf o)⟩] = secsOf o by
      rw [H5.out, H6.out, H7.out, HOF.out, List.take_of_length_le (by rw [offsOf_length]; simp [namesOf])]; rfl)
     have hW := ref15_Write_any _ _ _ hsec (by simp) (by intro s hs; simp at hs; rcases hs with rfl | rfl | rfl | rfl | rfl <;> simp) (by rw [hso.out]; exact (secErr_parts (secs_ok HE.out)).2.1)
     have HWW := hx hW
     clear hW hsec
     go_wp2_with (first | (go_at_call 56; refine HWW.out.mono ?_; rintro e wX ⟨vX, rfl, oX, eX⟩))
     go_ret
     refine ⟨_, rfl, ?_, (E2.alloc _).trans eX⟩
     have h := oX.read (boxOf_byt _ (by rw [hso.out]; exact secs_ok HE.out) (by rw [hso.out]; exact secsOf_byt (IsB.byt d2'))) (by rw [boxOf_len]; have := (secErr_parts (secs_ok HE.out)).2.1; rw [hso.out]; omega)
     rw [hso.out] at h
     exact h
end Go.Proofs.YtiaddncjghkajaaGreatDoor


set_option linter.unusedVariables false
set_option linter.unusedSimpArgs false
namespace Go.Proofs.YtiaddncjghkajaaGreatDoor
open Go.RowKit Go.Lib

set_option maxRecDepth 40000 in
set_option maxHeartbeats 4000000 in
theorem ref13_Same_eq (va vb : Value) (o : Ob) (w : World) (ha : IsOb w va o) (hb : IsOb w vb o) (hm : o.maps.length ≤ 1000000) (hr : o.rels.length ≤ 1000000) :
  Calls Tryz.prog 24 #[va, vb] w fun e w' => e = .returned (.bool true) ∧ Ext w w' := by
 obtain ⟨v1, v2, v3, rfl, d1, d2, d3⟩ := ha
 obtain ⟨A1, c1, rfl, -, -, d1'⟩ := d1.form
 obtain ⟨A2, c2, rfl, -, hcl, d2'⟩ := d2.form
 obtain ⟨A3, c3, rfl, -, -, d3'⟩ := d3.form
 obtain ⟨u1, u2, u3, rfl, f1, f2, f3⟩ := hb
 obtain ⟨B1, n1, rfl, -, -, f1'⟩ := f1.form
 obtain ⟨B2, n2, rfl, -, hcl2, f2'⟩ := f2.form
 obtain ⟨B3, n3, rfl, -, -, f3'⟩ := f3.form
 obtain ⟨W0, hW0⟩ : ∃ W0, W0 = (w.alloc (.cells #[.slice A1 o.maps.length c1, .slice A2 o.code.length c2, .slice A3 o.rels.length c3] 26)).alloc (.cells #[.slice B1 o.maps.length n1, .slice B2 o.code.length n2, .slice B3 o.rels.length n3] 26) := ⟨_, rfl⟩
 have e0 : Ext w W0 := by rw [hW0]; exact (Ext.new _ _).alloc _
 have r1 : RowO W0 w.heap.size (.slice A1 o.maps.length c1) (.slice A2 o.code.length c2) (.slice A3 o.rels.length c3) := by rw [hW0]; exact (rowO_new w _ _ _).ext (Ext.new _ _)
 have r2 : RowO W0 (w.heap.size + 1) (.slice B1 o.maps.length n1) (.slice B2 o.code.length n2) (.slice B3 o.rels.length n3) := by
  rw [hW0]
  have h := rowO_new (w.alloc (.cells #[.slice A1 o.maps.length c1, .slice A2 o.code.length c2, .slice A3 o.rels.length c3] 26)) (.slice B1 o.maps.length n1) (.slice B2 o.code.length n2) (.slice B3 o.rels.length n3)
  rwa [World.size_alloc] at h
 have hS := sameB_any _ _ o.code o.code W0 (IsB.ext d2' e0) (IsB.ext f2' e0)
 rw [decide_eq_true rfl] at hS
 rw [hW0] at hS
 have HW0 := hx hW0
 clear hW0 d1 d2 d3 f1 f2 f3
 go_enter Tryz.func24, Tryz.ntmps24
 go_wp2_with (first | (go_at_call 19; refine hS.mono ?_; rintro e w1 ⟨rfl, e1⟩; rw [← HW0.out] at e1; have x1 := r1.ext e1; have x2 := r2.ext e1; have a0 := x1.c0; have a2 := x1.c2; have b0 := x2.c0; have b2 := x2.c2))
 clear hS
 have ew1 := e0.trans e1
 clear e1 a0 a2 b0 b2
 go_loopw [5] (fun i wr => ∃ (pre suf : List Def), o.maps = pre ++ suf ∧ i = .int .i64 (pre.length : Nat) ∧ Ext w1 wr) (fun i _ => o.maps.length - (RowKit.intOf i).toNat)
 case atStart => exact ⟨[], o.maps, rfl, rfl, Ext.refl _⟩
 case round =>
  obtain ⟨pre, suf, hl', rfl, he⟩ := hrel
  have hpl : pre.length ≤ 1000000 := by have := congrArg List.length hl'; simp at this; omega
  have ew := ew1.trans he
  have y1 := x1.ext he
  have y2 := x2.ext he
  have a0 := y1.c0
  have b0 := y2.c0
  cases suf with
  | cons x suf =>
   have hlt : pre.length < o.maps.length := by rw [hl']; simp
   have hvx := d1'
   have hvy := f1'
   rw [hl'] at hvx hvy
   obtain ⟨b, o1, rfl, ⟨t1, t2, t3, t4⟩, -⟩ := hvx.at
   obtain ⟨bb, o2, rfl, ⟨s1, s2, s3, s4⟩, -⟩ := hvy.at
   replace t1 := ew.cell t1
   replace t2 := ew.cell t2
   replace t3 := ew.cell t3
   replace t4 := ew.cell t4
   replace s1 := ew.cell s1
   replace s2 := ew.cell s2
   replace s3 := ew.cell s3
   replace s4 := ew.cell s4
   have HL := hx hl'; clear hl' hvx hvy
   have j0 : (0 : Int) ≤ (pre.length : Int) := by omega
   have j1 : (pre.length : Int) < (o.maps.length : Int) := by omega
   have ed := he.drew
   go_wp2
   go_region
   go_wp2
   go_roundw
   case rel => exact ⟨pre ++ [x], suf, by simp [HL.out], by simp, ed⟩
   case measure => simp [RowKit.intOf]; omega
  | nil =>
   obtain rfl : o.maps = pre := by simpa using hl'
   clear hl'
   have hlt : ¬ o.maps.length < o.maps.length := by omega
   go_wp2
   clear a0 b0
   obtain ⟨W6, rfl⟩ : ∃ W6 : World, W6 = wr := ⟨_, rfl⟩
   go_loopw [6] (fun i wr => ∃ (pre suf : List Rel), o.rels = pre ++ suf ∧ i = .int .i64 (pre.length : Nat) ∧ Ext W6 wr) (fun i _ => o.rels.length - (RowKit.intOf i).toNat)
   case atStart => exact ⟨[], o.rels, rfl, rfl, Ext.refl _⟩
   case round =>
    obtain ⟨pre, suf, hl', rfl, he2⟩ := hrel
    have hpl : pre.length ≤ 1000000 := by have := congrArg List.length hl'; simp at this; omega
    have ew2 := ew.trans he2
    have z1 := y1.ext he2
    have z2 := y2.ext he2
    have a2 := z1.c2
    have b2 := z2.c2
    cases suf with
    | cons x suf =>
     have hlt : pre.length < o.rels.length := by rw [hl']; simp
     have hvx := d3'
     have hvy := f3'
     rw [hl'] at hvx hvy
     obtain ⟨b, o1, rfl, ⟨t1, t2⟩, -⟩ := hvx.at
     obtain ⟨bb, o2, rfl, ⟨s1, s2⟩, -⟩ := hvy.at
     replace t1 := ew2.cell t1
     replace t2 := ew2.cell t2
     replace s1 := ew2.cell s1
     replace s2 := ew2.cell s2
     have HL := hx hl'; clear hl' hvx hvy
     have j0 : (0 : Int) ≤ (pre.length : Int) := by omega
     have j1 : (pre.length : Int) < (o.rels.length : Int) := by omega
     have ed := he2.drew
     go_wp2
     go_region
     go_wp2
     go_roundw
     case rel => exact ⟨pre ++ [x], suf, by simp [HL.out], by simp, ed⟩
     case measure => simp [RowKit.intOf]; omega
    | nil =>
     obtain rfl : o.rels = pre := by simpa using hl'
     clear hl'
     have hlt : ¬ o.rels.length < o.rels.length := by omega
     go_wp2
     go_ret
     exact ⟨rfl, ew2⟩
end Go.Proofs.YtiaddncjghkajaaGreatDoor
