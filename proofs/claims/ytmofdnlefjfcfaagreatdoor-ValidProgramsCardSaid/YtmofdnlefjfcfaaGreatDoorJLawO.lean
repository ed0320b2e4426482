/- The statement ObjectPrograms, walked. -/
import Derived.Test.YtmofdnlefjfcfaaGreatDoorJAAss
import Derived.Test.YtmofdnlefjfcfaaGreatDoorJCore
import Derived.Deep.Slices
import Derived.Deep.Fields
import Derived.ChangeSame
import Derived.Lib.SmallJoins
import Derived.ProofKit
import Derived.Test.YtmofdnlefjfcfaaGreatDoorRows
import Derived.Test.YtmofdnlefjfcfaaGreatDoorJObj
import Derived.Stop.LaidErr
import Derived.Lib.LaidU8
import Derived.MakeChecks
import Derived.LaidOnce
import Derived.Lay
import Derived.Test.YtmofdnlefjfcfaaGreatDoorJSlot
import Derived.JoinedOf
set_option linter.unusedVariables false
set_option linter.unusedSimpArgs false
namespace Go.Proofs.YtmofdnlefjfcfaaGreatDoor
open Go.RowKit Go.Lib

/-- The length of what a small object is packed to. -/
theorem pack_small {o : Ob} (h : obE o = 0) (hc : o.code.length ≤ 4000) (hr : o.rels.length ≤ 500) : (packOf o).length ≤ 100000 := by
 obtain ⟨h1, -, -, -, -⟩ := obE_parts h
 obtain ⟨g1, g2, g3⟩ := names_good h
 have hm := (mapsE_parts h1).2.1
 have ht : tlen (namesOf o) ≤ 8415 := Nat.le_trans (tlen_le g2) (by omega)
 have hs : secSize (secsOf o) ≤ 100000 := by
  unfold secSize secsOf
  simp only [List.map_cons, List.map_nil, List.sum_cons, List.sum_nil, List.length_cons, List.length_nil, b4_length, defN_length, symN_length, offsOf_length, relN_length, tabOf_length]
  unfold up
  have : (namesOf o).length = o.maps.length := by simp [namesOf]
  omega
 have := boxOf_length (secsOf o)
 show (boxOf (secsOf o)).length ≤ _
 omega
theorem fewP_bd {M : List Def} {L : List Stmt} (h : fewP M L = true) : M.length ≤ 300 ∧ L.length ≤ 60 ∧ (flat L).length ≤ 200 := by
 unfold fewP at h
 simp only [Bool.and_eq_true, decide_eq_true_eq] at h
 omega
theorem asm_small {M : List Def} {L : List Stmt} (hM : M.length ≤ 300) (hL : L.length ≤ 60) : (asmO M L).maps.length ≤ 300 ∧ (asmO M L).code.length ≤ 4000 ∧ (asmO M L).rels.length ≤ 500 := by
 unfold asmO
 split
 ·have h1 := encs9_length (resL L)
  rw [resL_length] at h1
  have h2 := refsOf_len M L L.length
  exact ⟨hM, by dsimp only; omega, by dsimp only; omega⟩
 ·exact ⟨by simp, by simp, by simp⟩
set_option maxRecDepth 40000 in
set_option maxHeartbeats 8000000 in
theorem objectPrograms_any (v : Value) (p : Pr) (w : World) (h : IsPr w v p) (hG : Glob w) (hN : NoneV w) (hO : OpsN w) (hWd : WidN w) :
  Calls Tryz.prog 3 #[v] w fun e w' => e = .returned (.bool true) ∧ Ext w w' := by
 obtain ⟨M, L⟩ := p
 obtain ⟨v1, v2, rfl, hd, hv⟩ := h
 dsimp only at hd hv
 obtain ⟨A1, c1, rfl, -, hdl, hd'⟩ := hd.form
 obtain ⟨A2, c2, rfl, -, hvl, hv'⟩ := hv.form
 obtain ⟨m1, hm1⟩ : ∃ m1, m1 = M.length := ⟨_, rfl⟩
 obtain ⟨m, hm⟩ : ∃ m, m = L.length := ⟨_, rfl⟩
 rw [← hm1] at hdl hd' ⊢
 rw [← hm] at hvl hv' ⊢
 obtain ⟨W0, hW0⟩ : ∃ W0, W0 = w.alloc (.cells #[.slice A1 m1 c1, .slice A2 m c2] 25) := ⟨_, rfl⟩
 have e0 : Ext w W0 := by rw [hW0]; exact Ext.new _ _
 have r0 : RowV W0 w.heap.size 25 [.slice A1 m1 c1, .slice A2 m c2] := by rw [hW0]; exact RowV.new _ _ _
 have hF := refFew_any A1 A2 m1 c1 m c2 M L W0 hm1 hdl hm hvl (IsStmts.ext hv' e0)
 have CA := hx (fun (W : World) (hW : Ext w W) => alive_any W (hG.ext hW) (hN.ext hW))
 rw [hW0] at hF
 have HF := hx hF
 have HW0 := hx hW0
 have q0 := r0.cell (i := 0) rfl
 have q1 := r0.cell (i := 1) rfl
 cases hf : fewP M L with
 | false =>
  rw [hf] at HF
  clear hf hW0 hd hv hd' hv' hG hN hO hWd hF hm hm1 hdl hvl
  go_enter Tryz.func3, Tryz.ntmps3
  go_wp2_with (first
   | (go_at_call 5; refine HF.out.mono ?_; rintro e w1 ⟨rfl, e1⟩; rw [← HW0.out] at e1)
   | (go_at_call 6; refine (CA.out _ (e0.trans e1)).mono ?_; rintro e w2 ⟨rfl, e2⟩))
  go_ret
  exact ⟨rfl, (e0.trans e1).trans e2⟩
 | true =>
  rw [hf] at HF
  obtain ⟨b1, b2, b3⟩ := fewP_bd hf
  obtain ⟨n1, hn1⟩ : ∃ n, n = (asmO M L).maps.length := ⟨_, rfl⟩
  obtain ⟨n2, hn2⟩ : ∃ n, n = (asmO M L).code.length := ⟨_, rfl⟩
  obtain ⟨n3, hn3⟩ : ∃ n, n = (asmO M L).rels.length := ⟨_, rfl⟩
  have CS := hx (fun (W : World) (hW : Ext w W) => (refAssemble_any A1 A2 m1 c1 m c2 M L W hm1 (by omega) hm (by omega) (IsDefs.ext hd' hW) (IsStmts.ext hv' hW) (by omega)).mono (R' := fun e w' => ∃ A1 c1 A2 c2 A3 c3, e = .returned (.tuple #[.agg #[.slice A1 n1 c1, .slice A2 n2 c2, .slice A3 n3 c3], .int .i64 (resE M L).1, .int .i64 (resE M L).2]) ∧ ObV w' A1 c1 A2 c2 A3 c3 n1 n2 n3 (asmO M L) ∧ Ext W w') fun e w' ⟨v', h1, h2, h3⟩ => by
   obtain ⟨A1, c1, A2, c2, A3, c3, rfl, h⟩ := isOb_form h2
   rw [← hn1, ← hn2, ← hn3] at h h1
   exact ⟨A1, c1, A2, c2, A3, c3, h1, h, h3⟩)
  have CM := hx (fun (W : World) (hW : Ext w W) => (asmAssemble_any A1 A2 m1 c1 m c2 M L W hm1 (by omega) hm (by omega) (IsDefs.ext hd' hW) (IsStmts.ext hv' hW) (by omega) (hG.ext hW) (hN.ext hW) (hO.ext hW) (hWd.ext hW)).mono (R' := fun e w' => ∃ A1 c1 A2 c2 A3 c3, e = .returned (.tuple #[.agg #[.slice A1 n1 c1, .slice A2 n2 c2, .slice A3 n3 c3], .int .i64 (resE M L).1, .int .i64 (resE M L).2]) ∧ ObV w' A1 c1 A2 c2 A3 c3 n1 n2 n3 (asmO M L) ∧ Ext W w') fun e w' ⟨v', h1, h2, h3⟩ => by
   obtain ⟨A1, c1, A2, c2, A3, c3, rfl, h⟩ := isOb_form h2
   rw [← hn1, ← hn2, ← hn3] at h h1
   exact ⟨A1, c1, A2, c2, A3, c3, h1, h, h3⟩)
  by_cases hz : (resE M L).2 = 0
  ·have hob := asm_obE hz
   obtain ⟨hpe, hpo⟩ := asm_pa hz
   obtain ⟨s1, s2, s3⟩ := asm_small (M := M) (L := L) b1 b2
   have hpl := pack_small hob s2 s3
   obtain ⟨n, hn⟩ : ∃ n, n = (packOf (asmO M L)).length := ⟨_, rfl⟩
   have hpk : pkOut (asmO M L) = packOf (asmO M L) := by unfold pkOut; rw [if_pos hob]
   have CP := hx (fun (W : World) (hW : Ext w W) (v : Value) (ho : IsOb W v (asmO M L)) => (object_Pack_any v _ W ho (by omega) (by omega) (hG.ext hW) (hN.ext hW)).mono (R' := fun e w' => ∃ A c, e = .returned (.tuple #[.slice A n c, .int .i64 0]) ∧ IsB w' (.slice A n c) (packOf (asmO M L)) ∧ Ext W w') fun e w' ⟨v', h1, h2, h3⟩ => by
    rw [hpk] at h2
    rw [hob] at h1
    obtain ⟨A, c, rfl, -, -, h2'⟩ := h2.form
    rw [← hn] at h1 h2'
    exact ⟨A, c, h1, h2', h3⟩)
   have CQ := hx (fun (W : World) (hW : Ext w W) (v : Value) (ho : IsB W v (packOf (asmO M L))) => (object_Parse_any v _ W ho (by omega) (hG.ext hW) (hN.ext hW)).mono (R' := fun e w' => ∃ A1 c1 A2 c2 A3 c3, e = .returned (.tuple #[.agg #[.slice A1 n1 c1, .slice A2 n2 c2, .slice A3 n3 c3], .int .i64 0]) ∧ ObV w' A1 c1 A2 c2 A3 c3 n1 n2 n3 (asmO M L) ∧ Ext W w') fun e w' ⟨v', h1, h2, h3⟩ => by
    rw [hpo] at h2
    rw [hpe] at h1
    obtain ⟨A1, c1, A2, c2, A3, c3, rfl, h⟩ := isOb_form h2
    rw [← hn1, ← hn2, ← hn3] at h h1
    exact ⟨A1, c1, A2, c2, A3, c3, h1, h, h3⟩)
   have CK := hx (fun (W : World) (hW : Ext w W) (v : Value) (ho : IsOb W v (asmO M L)) => (object_Check_any v _ W ho (by omega) (by omega) (hG.ext hW) (hN.ext hW)).mono (R' := fun e w' => e = .returned (.int .i64 0) ∧ Ext W w') fun e w' ⟨h1, h2⟩ => ⟨by rw [h1, hob], h2⟩)
   have CE := hx (fun (W : World) (va vb : Value) (ha : IsOb W va (asmO M L)) (hb : IsOb W vb (asmO M L)) => ref13_Same_eq va vb _ W ha hb (by omega) (by omega))
   generalize asmO M L = AO at *
   generalize packOf AO = PB at *
   generalize hR : resE M L = RE at *
   obtain ⟨ra, re⟩ := RE
   dsimp only at hz CS CM
   subst hz
   clear hf hW0 hd hv hd' hv' hG hN hO hWd hF hm hm1 hdl hvl b1 b2 b3 hn1 hn2 hn3 hob hpe hpo s1 s2 s3 hpl hpk hn hR r0
   go_enter Tryz.func3, Tryz.ntmps3
   go_wp2_with fail
   refine HF.out.mono ?_
   rintro e w1 ⟨rfl, e1⟩
   rw [← HW0.out] at e1
   have E1 := e0.trans e1
   replace q0 := e1.cell q0
   replace q1 := e1.cell q1
   clear HF HW0 e0 e1
   go_wp2_with fail
   refine (CS.out w1 E1).mono ?_
   rintro e w2 ⟨B1, b1, B2, b2, B3, b3, rfl, i2, e2⟩
   have s2 := rowO_new w2 (.slice B1 n1 b1) (.slice B2 n2 b2) (.slice B3 n3 b3)
   have x2 := e2.trans (Ext.new w2 (.cells #[.slice B1 n1 b1, .slice B2 n2 b2, .slice B3 n3 b3] 31))
   replace i2 := IsOb.ext i2 (Ext.new w2 (.cells #[.slice B1 n1 b1, .slice B2 n2 b2, .slice B3 n3 b3] 31))
   have E2 := E1.trans x2
   replace q0 := x2.cell q0
   replace q1 := x2.cell q1
   clear CS E1 e2 x2
   go_wp2_with fail
   refine (CM.out _ E2).mono ?_
   rintro e w3 ⟨D1, d1, D2, d2, D3, d3, rfl, i3, e3⟩
   have s3 := rowO_new w3 (.slice D1 n1 d1) (.slice D2 n2 d2) (.slice D3 n3 d3)
   have f3 := Ext.new w3 (.cells #[.slice D1 n1 d1, .slice D2 n2 d2, .slice D3 n3 d3] 31)
   have x3 := e3.trans f3
   replace i3 := IsOb.ext i3 f3
   replace i2 := IsOb.ext i2 x3
   replace s2 := s2.ext x3
   have E3 := E2.trans x3
   have k0 := s3.c0
   have k1 := s3.c1
   have k2 := s3.c2
   clear CM E2 e3 f3 x3 q0 q1
   go_wp2_with fail
   refine (CP.out _ E3 _ i3).mono ?_
   rintro e w4 ⟨F, f, rfl, i4, e4⟩
   replace i2 := IsOb.ext i2 e4
   replace i3 := IsOb.ext i3 e4
   replace s2 := s2.ext e4
   replace s3 := s3.ext e4
   have E4 := E3.trans e4
   clear CP E3 e4 k0 k1 k2
   go_wp2_with fail
   refine (CQ.out _ E4 _ i4).mono ?_
   rintro e w5 ⟨G1, g1, G2, g2, G3, g3, rfl, i5, e5⟩
   have s5 := rowO_new w5 (.slice G1 n1 g1) (.slice G2 n2 g2) (.slice G3 n3 g3)
   have f5 := Ext.new w5 (.cells #[.slice G1 n1 g1, .slice G2 n2 g2, .slice G3 n3 g3] 31)
   have x5 := e5.trans f5
   replace i5 := IsOb.ext i5 f5
   replace i2 := IsOb.ext i2 x5
   replace i3 := IsOb.ext i3 x5
   replace s2 := s2.ext x5
   replace s3 := s3.ext x5
   have E5 := E4.trans x5
   have CA5 := CA.out _ E5
   clear CQ E4 e5 f5 x5 i4 CA
   go_wp2_with (first
    | (go_at_call 6; refine CA5.mono ?_; rintro e w6 ⟨rfl, e6⟩; have E6 := E5.trans e6; have k0 := e6.cell s3.c0; have k1 := e6.cell s3.c1; have k2 := e6.cell s3.c2; have l0 := e6.cell s5.c0; have l1 := e6.cell s5.c1; have l2 := e6.cell s5.c2; have j0 := e6.cell s2.c0; have j1 := e6.cell s2.c1; have j2 := e6.cell s2.c2; replace i5 := IsOb.ext i5 e6; replace i2 := IsOb.ext i2 e6; replace i3 := IsOb.ext i3 e6; clear s2 s3 s5 CA5 e6)
    | (go_at_call 11; refine (CK.out w6 E6 _ i3).mono ?_; rintro e w7 ⟨rfl, e7⟩; have E7 := E6.trans e7; replace l0 := e7.cell l0; replace l1 := e7.cell l1; replace l2 := e7.cell l2; replace j0 := e7.cell j0; replace j1 := e7.cell j1; replace j2 := e7.cell j2; replace i5 := IsOb.ext i5 e7; replace i2 := IsOb.ext i2 e7; clear k0 k1 k2 i3 e7 CK)
    | (go_at_call 12; refine (CE.out w7 _ _ i5 i2).mono ?_; rintro e w8 ⟨rfl, e8⟩))
   go_ret
   exact ⟨ret_bool (by simp), E7.trans e8⟩
  ·generalize asmO M L = AO at *
   generalize hR : resE M L = RE at *
   obtain ⟨ra, re⟩ := RE
   dsimp only at hz CS CM
   have hz' : (re != 0) = true := by simpa using hz
   clear hf hW0 hd hv hd' hv' hG hN hO hWd hF hm hm1 hdl hvl b1 b2 b3 hn1 hn2 hn3 hR r0 hz CM
   go_enter Tryz.func3, Tryz.ntmps3
   go_wp2_with fail
   refine HF.out.mono ?_
   rintro e w1 ⟨rfl, e1⟩
   rw [← HW0.out] at e1
   have E1 := e0.trans e1
   replace q0 := e1.cell q0
   replace q1 := e1.cell q1
   clear HF HW0 e0 e1
   go_wp2_with fail
   refine (CS.out w1 E1).mono ?_
   rintro e w2 ⟨B1, b1, B2, b2, B3, b3, rfl, i2, e2⟩
   have x2 := e2.trans (Ext.new w2 (.cells #[.slice B1 n1 b1, .slice B2 n2 b2, .slice B3 n3 b3] 31))
   have E2 := E1.trans x2
   have CA2 := CA.out _ E2
   clear CS E1 e2 x2 i2 q0 q1 CA
   go_wp2_with (first
    | (go_at_call 6; refine CA2.mono ?_; rintro e w3 ⟨rfl, e3⟩))
   go_ret
   exact ⟨rfl, E2.trans e3⟩
end Go.Proofs.YtmofdnlefjfcfaaGreatDoor


set_option linter.unusedVariables false
set_option linter.unnecessarySimpa false
set_option linter.unusedSimpArgs false
namespace Go.Proofs.YtmofdnlefjfcfaaGreatDoor
open Go.Joins Go.ChangeShapes Go.WideShapes Go.RowKit Go.Deep

section
variable {H : Type} {enc : TypeId × Value → H} {P : Program} {w : World} {base : Nat} {spare : Nat → Bool} {held : Bool}
theorem all_split {a b : List Nat} {p : Nat → Bool} (h : (a ++ b).all p = true) : a.all p = true ∧ b.all p = true := by simpa using h
theorem weightsAll_mem {e : TypeId} {p : Nat → Bool} : ∀ {l : List (DataW H)}, (DataW.weightsAll P e l).all p = true → ∀ d ∈ l, (d.weights P e).all p = true := by
 intro l
 induction l with
 | nil => intro _ d hd; cases hd
 | cons x l ih =>
  intro h d hd
  rw [DataW.weightsAll] at h
  obtain ⟨h1, h2⟩ := all_split h
  rcases List.mem_cons.1 hd with rfl | hd
  ·exact h1
  ·exact ih h2 d hd
theorem plain_at {a : Addr} {v : Value} (h : w.cell? a = some v) : a = ⟨a.block, a.off, none⟩ := by
 unfold World.cell? at h
 split at h
 ·split at h
  ·cases h
  ·rename_i hs
   obtain ⟨b, o, s⟩ := a
   cases s with
   | none => rfl
   | some _ => simp at hs
 ·cases h
theorem sl_of_trod {α : Type} {sz bytes : Nat} {E : World → Nat → Nat → α → Prop} {t e : TypeId} (ht : P.underlying t = some (.slice e)) (hC : P.cellsOf e = sz) (hsz : 0 < sz) (hbt : P.bytesOf e = bytes) (hb1 : 1 ≤ bytes)
  (hel : ∀ (n : Nat) (cs' : List Value) (d : DataW H) (ps : List MemPlace), DataW.trod enc P w base spare held n e cs' = some (d, ps) → cs'.length = sz → (d.weights P e).all (· ≤ reachBytes) = true →
   ∃ y : α, ∀ b o, (∀ j, j < sz → w.cell? ⟨b, o + j, none⟩ = cs'[j]?) → E w b o y)
  {fuel : Nat} {v : Value} {x : DataW H × List MemPlace} (h : DataW.trod enc P w base spare held fuel t [v] = some x) (hw : (x.1.weights P t).all (· ≤ reachBytes) = true) : ∃ l : List α, Sl sz E w v l := by
 rcases open_slice ht h with ⟨hv, _⟩ | ⟨a, len, cap, m, n, D, Pl, hcs, hb, hl, hm, hmm, hx, hi⟩
 ·obtain rfl : v = .slice none 0 0 := by simpa using hv
  exact ⟨[], Sl.nil w⟩
 ·obtain rfl : v = .slice (some a) len cap := by simpa using hcs
  subst hx
  have hlm : len ≤ m := by rw [hmm]; split <;> omega
  simp only [DataW.weights, ht, List.all_cons, Bool.and_eq_true, decide_eq_true_eq, List.length_map, List.length_range] at hw
  obtain ⟨hw1, hw2⟩ := hw
  obtain ⟨hw2, hw3⟩ := all_split hw2
  have hlb : len ≤ 281474976710656 := by
   rw [hbt] at hw1
   have h1 : len + (m - len) ≤ (len + (m - len)) * bytes := Nat.le_mul_of_pos_right _ hb1
   have h2 : reachBytes = 140737488351232 := rfl
   omega
  have hD : ∀ i, i < len → ((D i).weights P e).all (· ≤ reachBytes) = true := fun i hi' => weightsAll_mem hw2 _ (List.mem_map.2 ⟨i, List.mem_range.2 hi', rfl⟩)
  have key : ∀ i : Fin len, ∃ y : α, ∀ b o, (∀ j, j < sz → w.cell? ⟨b, o + j, none⟩ = w.cell? (a.add (i.1 * sz + j))) → E w b o y := fun i => by
   obtain ⟨cs', hc, htr⟩ := hi i.1 (by omega)
   rw [hC] at hc
   obtain ⟨_, hcl, hat⟩ := World.cells?_some hc
   obtain ⟨y, hy⟩ := hel n cs' _ _ htr hcl (hD i.1 i.2)
   refine ⟨y, fun b o hbo => hy b o fun j hj => ?_⟩
   rw [hbo j hj, ← hat j hj, add_add]
  let f : Fin len → α := fun i => Classical.choose (key i)
  have hf : ∀ i : Fin len, ∀ b o, (∀ j, j < sz → w.cell? ⟨b, o + j, none⟩ = w.cell? (a.add (i.1 * sz + j))) → E w b o (f i) := fun i => Classical.choose_spec (key i)
  refine ⟨(List.finRange len).map f, some a, cap, by simp, by simp; omega, by simpa using hlb, (fun h => by cases h), fun i x hxi => ?_⟩
  rw [List.getElem?_map, Option.map_eq_some_iff] at hxi
  obtain ⟨i', hi', rfl⟩ := hxi
  have hil : i < len := by have := (List.getElem?_eq_some_iff.1 hi').1; simpa using this
  obtain rfl : i' = ⟨i, hil⟩ := by
   have := (List.getElem?_eq_some_iff.1 hi').2
   simpa using this.symm
  have hpl : a = ⟨a.block, a.off, none⟩ := by
   obtain ⟨cs', hc, _⟩ := hi 0 (by omega)
   rw [hC] at hc
   obtain ⟨_, hcl, hat⟩ := World.cells?_some hc
   have h0 := hat 0 hsz
   rw [Nat.zero_mul] at h0
   have he : (a.add 0).add 0 = a := by simp [Addr.add]
   rw [he] at h0
   exact plain_at (v := cs'[0]'(by omega)) (by rw [h0]; exact List.getElem?_eq_getElem (by omega))
  refine ⟨a.block, a.off, by rw [← hpl], hf ⟨i, hil⟩ _ _ fun j hj => ?_⟩
  have : a.add (i * sz + j) = ⟨a.block, a.off + (i * sz + j), none⟩ := by rw [hpl]; exact add_plain _ _ _
  rw [this, Nat.add_assoc]
end

section
variable {H : Type} {enc : TypeId × Value → H} {w : World} {base : Nat} {spare : Nat → Bool} {held : Bool}
theorem wf_i64 {z : Int} (h : (Lit.int .i64 z).wf = true) : I64 z := by
 have : -9223372036854775808 ≤ z ∧ z ≤ 9223372036854775807 := by simpa [Lit.wf, IntKind.min, IntKind.max, IntKind.signed, IntKind.bits] using h
 exact this
set_option maxRecDepth 100000 in
theorem isDefs_of_trod {fuel : Nat} {v : Value} {x : DataW H × List MemPlace} (h : DataW.trod enc Tryz.prog w base spare held fuel 22 [v] = some x) (hw : (x.1.weights Tryz.prog 22).all (· ≤ reachBytes) = true) : ∃ l, IsDefs w v l :=
 sl_of_trod (sz := 4) (bytes := 40) Tryz.underlying22 (by kernel_rfl) (by decide) (by kernel_rfl) (by decide) (fun n cs' d ps ht hl hwd => by
  obtain ⟨xs, n', _, hx, _, hxl, hf⟩ := DataW.trod_struct Tryz.underlying65 ht
  match cs', hl with
  | [c0, c1, c2, c3], _ =>
   match xs, hxl with
   | [y0, y1, y2, y3], _ =>
    have k9 : Tryz.prog.cellsOf 9 = 1 := by kernel_rfl
    have k3 : Tryz.prog.cellsOf 3 = 1 := by kernel_rfl
    have h0 := hf 0 _ rfl
    have h1 := hf 1 _ rfl
    have h2 := hf 2 _ rfl
    have h3 := hf 3 _ rfl
    simp only [k9, k3, List.drop_zero, List.drop_succ_cons, List.take_succ_cons, List.take_zero, List.getElem?_cons_zero, List.getElem?_cons_succ] at h0 h1 h2 h3
    obtain ⟨s, e0, f0, _⟩ := DataW.trod_string Tryz.underlying9 h0
    obtain ⟨z1, e1, f1, w1⟩ := DataW.trod_int Tryz.underlying3 h1
    obtain ⟨z2, e2, f2, w2⟩ := DataW.trod_int Tryz.underlying3 h2
    obtain ⟨z3, e3, f3, w3⟩ := DataW.trod_int Tryz.underlying3 h3
    obtain rfl : c0 = .string s := by simpa [k9] using e0
    obtain rfl : c1 = .int .i64 z1 := by simpa [k3] using e1
    obtain rfl : c2 = .int .i64 z2 := by simpa [k3] using e2
    obtain rfl : c3 = .int .i64 z3 := by simpa [k3] using e3
    have hd : d = .agg [.lit (.string s.data.toList), .lit (.int .i64 z1), .lit (.int .i64 z2), .lit (.int .i64 z3)] := by
     have := congrArg Prod.fst hx
     simpa [f0, f1, f2, f3] using this
    subst hd
    have hs : s.size ≤ 140737488355328 := by
     simp [DataW.weights, DataW.weightsEach, Tryz.underlying65] at hwd
     have h2 : reachBytes = 140737488351232 := rfl
     have h3 : s.data.toList.length = s.size := by simp
     simp at h3 hwd
     omega
    exact ⟨⟨s, z1, z2, z3⟩, fun b o hc => ⟨⟨by simpa using hc 0 (by decide), by simpa using hc 1 (by decide), by simpa using hc 2 (by decide), by simpa using hc 3 (by decide)⟩, ⟨hs, wf_i64 w1, wf_i64 w2, wf_i64 w3⟩⟩⟩) h hw
end
end Go.Proofs.YtmofdnlefjfcfaaGreatDoor


set_option linter.unusedVariables false
set_option linter.unnecessarySimpa false
set_option linter.unusedSimpArgs false
namespace Go.Proofs.YtmofdnlefjfcfaaGreatDoor
open Go.RowKit Go.Lib Go.ChangeShapes

theorem es_star : "*" ++ "errors.errorString" = "*errors.errorString" := by decide
theorem row_es (u : TypeId) (h : Tryz.prog.typeName? 3 u = some "*errors.errorString") : u = 261 :=
 typeName_ptr_named (nm := "errors.errorString") (by rw [es_star]; kernel_rfl) (by kernel_rfl) (by decide) u (by rw [es_star]; exact h)
theorem plainH : (Rows.objectProgramsRow.laid.all fun x => x.2.handleName?.isNone) = true := by kernel_rfl
theorem own : ownKnob Tryz.prog.godebug = none := by kernel_rfl
theorem laidOut : laidOutB Tryz.prog = true := by kernel_rfl
theorem none_of_laid {W : World} (h : laidMet Tryz.prog Rows.objectProgramsRow.laid W) : NoneV W := by
 obtain ⟨g, t, cs, fuel, p, h1, h2, h3, h4⟩ := Lib.laidMet.reads (n := "slotcode/prog.none") (d := Rows.laid_slotcode_prog_none) h (by simp [Rows.objectProgramsRow])
 obtain rfl : g = 0 := by
  have : Tryz.prog.globalNamed "slotcode/prog.none" = some 0 := by kernel_rfl
  rw [this] at h1; exact (Option.some.inj h1).symm
 obtain rfl : t = 126 := by
  have : (Tryz.prog.globals[0]?).map (·.type) = some 126 := by kernel_rfl
  rw [this] at h2; exact (Option.some.inj h2).symm
 have e := Lib.ints_of_struct (k := .i64) (zs := [0, 0]) Tryz.underlying126 (by
  intro i f hf
  match i with
  | 0 => obtain rfl := Option.some.inj hf; exact ⟨by kernel_rfl, rfl, by kernel_rfl⟩
  | 1 => obtain rfl := Option.some.inj hf; exact ⟨by kernel_rfl, rfl, by kernel_rfl⟩
  | n + 2 => cases hf) (by kernel_rfl) h4
 have hk : cs = #[.int .i64 0, .int .i64 0] := by
  apply Array.ext'
  simpa using e
 subst hk
 exact ⟨World.var?_cell h1 h3 0, World.var?_cell h1 h3 1⟩
theorem props_of_laid {W : World} (h : laidMet Tryz.prog Rows.objectProgramsRow.laid W) : Lib.TabIs Tryz.prog W "unicode.properties" .u8 Lib.propertiesTab := by
 have h6 := h.tail.tail.tail.tail.tail.tail
 have e : (Rows.laid_unicode_properties : DataW Unit) = Lib.tabData .u8 Lib.propertiesTab := by kernel_rfl
 rw [e] at h6
 exact Lib.tabIs_of_head (n := 256) (g := 5) (t := 243) (e := 5) (by kernel_rfl) (by kernel_rfl) (by kernel_rfl) (by kernel_rfl) (by kernel_rfl) (by kernel_rfl) h6
theorem glob_of_laid {W : World} (h : laidMet Tryz.prog Rows.objectProgramsRow.laid W) : Glob W := by
 have h3 := h.tail.tail.tail
 have h4 := h3.tail
 refine ⟨props_of_laid h, ?_, ?_⟩
 ·obtain ⟨a, s, h1, _⟩ := laid_sentinel (g := 7) (ti := 226) (tp := 261) (te := 263) (ts := 9) h4
   (by kernel_rfl) (by kernel_rfl) Tryz.underlying226 row_es Tryz.underlying261 Tryz.underlying263 rfl rfl Tryz.underlying9 (by kernel_rfl) (by kernel_rfl)
  exact ⟨_, _, h1⟩
 ·obtain ⟨a, s, h1, _⟩ := laid_sentinel (g := 8) (ti := 226) (tp := 261) (te := 263) (ts := 9) h3
   (by kernel_rfl) (by kernel_rfl) Tryz.underlying226 row_es Tryz.underlying261 Tryz.underlying263 rfl rfl Tryz.underlying9 (by kernel_rfl) (by kernel_rfl)
  exact ⟨_, _, h1⟩
end Go.Proofs.YtmofdnlefjfcfaaGreatDoor


set_option linter.unusedVariables false
set_option linter.unusedSimpArgs false
namespace Go.Proofs.YtmofdnlefjfcfaaGreatDoor
open Go.RowKit Go.Lib Go.ChangeShapes

theorem wid_of_laid {W : World} (h : laidMet Tryz.prog Rows.objectProgramsRow.laid W) : WidN W := by
 have h7 := h.tail.tail.tail.tail.tail.tail.tail
 have e : (Rows.laid_slotcode_num_widths : DataW Unit) = Lib.tabData .i64 [8, 16, 32, 64] := by rfl
 rw [e] at h7
 have t : Lib.TabIs Tryz.prog W "slotcode/num.widths" .i64 [8, 16, 32, 64] := Lib.tabIs_of_head (n := 4) (g := 1) (t := 183) (e := 3) (by kernel_rfl) (by kernel_rfl) (by kernel_rfl) (by kernel_rfl) (by kernel_rfl) (by kernel_rfl) h7
 have hg : Tryz.prog.globalNamed "slotcode/num.widths" = some 1 := by kernel_rfl
 exact ⟨World.var?_cell hg t 0, World.var?_cell hg t 1, World.var?_cell hg t 2, World.var?_cell hg t 3⟩
set_option maxRecDepth 100000 in
theorem ops_of_laid {W : World} (h : laidMet Tryz.prog Rows.objectProgramsRow.laid W) : OpsN W := by
 obtain ⟨g, t, cs, fuel, p, h1, h2, h3, h4⟩ := Lib.laidMet.reads (n := "slotcode/ops.none") (d := Rows.laid_slotcode_ops_none) h (by simp [Rows.objectProgramsRow])
 obtain rfl : g = 2 := by
  have : Tryz.prog.globalNamed "slotcode/ops.none" = some 2 := by kernel_rfl
  rw [this] at h1; exact (Option.some.inj h1).symm
 obtain rfl : t = 159 := by
  have : (Tryz.prog.globals[2]?).map (·.type) = some 159 := by kernel_rfl
  rw [this] at h2; exact (Option.some.inj h2).symm
 obtain ⟨xs, n', _, hx, hl, hxl, hf⟩ := DataW.trod_struct Tryz.underlying159 h4
 have k7 : Tryz.prog.cellsOf 159 = 7 := by kernel_rfl
 rw [k7] at hl
 obtain ⟨l⟩ := cs
 match l, hl with
 | [c0, c1, c2, c3, c4, c5, c6], _ =>
  match xs, hxl with
  | [y0, y1, y2, y3, y4, y5, y6], _ =>
   have k9 : Tryz.prog.cellsOf 9 = 1 := by kernel_rfl
   have k3 : Tryz.prog.cellsOf 3 = 1 := by kernel_rfl
   have k5 : Tryz.prog.cellsOf 5 = 1 := by kernel_rfl
   have e := congrArg Prod.fst hx
   simp only [Rows.laid_slotcode_ops_none, List.map_cons, List.map_nil, DataW.agg.injEq, List.cons.injEq, and_true] at e
   obtain ⟨q0, q1, q2, q3, q4, q5, q6⟩ := e
   obtain ⟨s, e0, f0, _⟩ := DataW.trod_string Tryz.underlying9 (hf 0 _ rfl)
   obtain ⟨z1, e1, f1, _⟩ := DataW.trod_int Tryz.underlying3 (hf 1 _ rfl)
   obtain ⟨z2, e2, f2, _⟩ := DataW.trod_int Tryz.underlying3 (hf 2 _ rfl)
   obtain ⟨z3, e3, f3, _⟩ := DataW.trod_int Tryz.underlying5 (hf 3 _ rfl)
   obtain ⟨z4, e4, f4, _⟩ := DataW.trod_int Tryz.underlying3 (hf 4 _ rfl)
   obtain ⟨z5, e5, f5, _⟩ := DataW.trod_int Tryz.underlying3 (hf 5 _ rfl)
   obtain ⟨z6, e6, f6, _⟩ := DataW.trod_int Tryz.underlying3 (hf 6 _ rfl)
   subst f0 f1 f2 f3 f4 f5 f6
   obtain rfl : c0 = .string s := by simpa [k9] using e0
   obtain rfl : c1 = .int .i64 z1 := by simpa [k3] using e1
   obtain rfl : c2 = .int .i64 z2 := by simpa [k3] using e2
   obtain rfl : c3 = .int .u8 z3 := by simpa [k5] using e3
   obtain rfl : c4 = .int .i64 z4 := by simpa [k3] using e4
   obtain rfl : c5 = .int .i64 z5 := by simpa [k3] using e5
   obtain rfl : c6 = .int .i64 z6 := by simpa [k3] using e6
   simp only [DataW.lit.injEq, Lit.int.injEq, Lit.string.injEq, true_and] at q0 q1 q2 q3 q4 q5 q6
   subst q1 q2 q3 q4 q5 q6
   have hs : s = ⟨#[]⟩ := by
    apply ByteArray.ext
    apply Array.ext'
    simpa using q0.symm
   subst hs
   exact ⟨World.var?_cell h1 h3 0, World.var?_cell h1 h3 1, World.var?_cell h1 h3 2, World.var?_cell h1 h3 3, World.var?_cell h1 h3 4, World.var?_cell h1 h3 5, World.var?_cell h1 h3 6⟩
end Go.Proofs.YtmofdnlefjfcfaaGreatDoor


set_option linter.unusedVariables false
set_option linter.unnecessarySimpa false
set_option linter.unusedSimpArgs false
namespace Go.Proofs.YtmofdnlefjfcfaaGreatDoor
open Go.Joins Go.ChangeShapes Go.WideShapes Go.RowKit Go.Deep

section
variable {H : Type} {enc : TypeId × Value → H} {w : World} {base : Nat} {spare : Nat → Bool} {held : Bool}
theorem str_weight {s : ByteArray} (h : ((DataW.lit (.string s.data.toList) : DataW H).weights Tryz.prog 9).all (· ≤ reachBytes) = true) : s.size ≤ 140737488355328 := by
 simp [DataW.weights, Tryz.underlying9] at h
 have h2 : reachBytes = 140737488351232 := rfl
 have h3 : s.data.toList.length = s.size := by simp
 simp at h3 h
 omega
theorem isStrs_of_trod {fuel : Nat} {v : Value} {x : DataW H × List MemPlace} (h : DataW.trod enc Tryz.prog w base spare held fuel 51 [v] = some x) (hw : (x.1.weights Tryz.prog 51).all (· ≤ reachBytes) = true) : ∃ l, IsStrs w v l :=
 sl_of_trod (sz := 1) (bytes := 16) Tryz.underlying51 (by kernel_rfl) (by decide) (by kernel_rfl) (by decide) (fun n cs' d ps ht hl hwd => by
  obtain ⟨s, rfl, hd, _⟩ := DataW.trod_string Tryz.underlying9 ht
  have hd' : d = .lit (.string s.data.toList) := congrArg Prod.fst hd
  subst hd'
  exact ⟨s, fun b o hc => ⟨by simpa using hc 0 (by decide), str_weight hwd⟩⟩) h hw
set_option maxRecDepth 100000 in
theorem isStmts_of_trod {fuel : Nat} {v : Value} {x : DataW H × List MemPlace} (h : DataW.trod enc Tryz.prog w base spare held fuel 23 [v] = some x) (hw : (x.1.weights Tryz.prog 23).all (· ≤ reachBytes) = true) : ∃ l, IsStmts w v l :=
 sl_of_trod (sz := 9) (bytes := 104) Tryz.underlying23 (by kernel_rfl) (by decide) (by kernel_rfl) (by decide) (fun n cs' d ps ht hl hwd => by
  obtain ⟨xs, n', _, hx, _, hxl, hf⟩ := DataW.trod_struct Tryz.underlying55 ht
  match cs', hl with
  | [c0, c1, c2, c3, c4, c5, c6, c7, c8], _ =>
   match xs, hxl with
   | [y0, y1, y2, y3], _ =>
    have k1 : Tryz.prog.cellsOf 51 = 1 := by kernel_rfl
    have k6 : Tryz.prog.cellsOf 53 = 6 := by kernel_rfl
    have k9 : Tryz.prog.cellsOf 9 = 1 := by kernel_rfl
    have k3 : Tryz.prog.cellsOf 3 = 1 := by kernel_rfl
    have k4 : Tryz.prog.cellsOf 4 = 1 := by kernel_rfl
    have k2 : Tryz.prog.cellsOf 2 = 1 := by kernel_rfl
    have h0 := hf 0 _ rfl
    have h1 : DataW.trod enc Tryz.prog w base spare held n' 53 [c1, c2, c3, c4, c5, c6] = some y1 := by
     have h : DataW.trod enc Tryz.prog w base spare held n' 53 (List.take (Tryz.prog.cellsOf 53) (List.drop 1 [c0, c1, c2, c3, c4, c5, c6, c7, c8])) = some y1 := hf 1 _ rfl
     rw [k6] at h
     exact h
    have h2 := hf 2 _ rfl
    have h3 := hf 3 _ rfl
    simp only [k1, k9, List.drop_zero, List.drop_succ_cons, List.take_succ_cons, List.take_zero, List.getElem?_cons_zero, List.getElem?_cons_succ] at h0 h2 h3
    obtain ⟨xs1, n1, _, hx1, _, hxl1, hf1⟩ := DataW.trod_struct Tryz.underlying53 h1
    match xs1, hxl1 with
    | [z0, z1, z2, z3, z4, z5], _ =>
     have g0 := hf1 0 _ rfl
     have g1 := hf1 1 _ rfl
     have g2 := hf1 2 _ rfl
     have g3 := hf1 3 _ rfl
     have g4 := hf1 4 _ rfl
     have g5 := hf1 5 _ rfl
     simp only [k3, k4, k2, List.drop_zero, List.drop_succ_cons, List.take_succ_cons, List.take_zero, List.getElem?_cons_zero, List.getElem?_cons_succ] at g0 g1 g2 g3 g4 g5
     obtain ⟨i0, e0, f0, u0⟩ := DataW.trod_int Tryz.underlying3 g0
     obtain ⟨i1, e1, f1⟩ := DataW.trod_bool Tryz.underlying4 g1
     obtain ⟨i2, e2, f2, u2⟩ := DataW.trod_int Tryz.underlying3 g2
     obtain ⟨i3, e3, f3, u3⟩ := DataW.trod_int Tryz.underlying3 g3
     obtain ⟨i4, e4, f4, u4⟩ := DataW.trod_int Tryz.underlying3 g4
     obtain ⟨i5, e5, f5, u5⟩ := DataW.trod_int Tryz.underlying2 g5
     obtain ⟨s6, e6, f6, _⟩ := DataW.trod_string Tryz.underlying9 h2
     obtain ⟨s7, e7, f7, _⟩ := DataW.trod_string Tryz.underlying9 h3
     obtain rfl : c1 = .int .i64 i0 := by simpa [k3] using e0
     obtain rfl : c2 = .bool i1 := by simpa [k4] using e1
     obtain rfl : c3 = .int .i64 i2 := by simpa [k3] using e2
     obtain rfl : c4 = .int .i64 i3 := by simpa [k3] using e3
     obtain rfl : c5 = .int .i64 i4 := by simpa [k3] using e4
     obtain rfl : c6 = .int .i64 i5 := by simpa [k2] using e5
     obtain rfl : c7 = .string s6 := by simpa [k9] using e6
     obtain rfl : c8 = .string s7 := by simpa [k9] using e7
     have hd : d = .agg [y0.1, y1.1, .lit (.string s6.data.toList), .lit (.string s7.data.toList)] := by
      have := congrArg Prod.fst hx
      simpa [f6, f7] using this
     subst hd
     clear g0 g1 g2 g3 g4 g5 h1 h2 h3 hf hf1 hx hx1 hxl1 e0 e1 e2 e3 e4 e5 e6 e7 f0 f1 f2 f3 f4 f5 f6 f7 ht
     generalize hd6 : (DataW.lit (.string s6.data.toList) : DataW H) = d6 at hwd
     generalize hd7 : (DataW.lit (.string s7.data.toList) : DataW H) = d7 at hwd
     simp only [DataW.weights, DataW.weightsEach, Tryz.underlying55, List.map_cons, List.map_nil] at hwd
     obtain ⟨w0, hwd⟩ := all_split hwd
     obtain ⟨-, hwd⟩ := all_split hwd
     obtain ⟨w6, hwd⟩ := all_split hwd
     obtain ⟨w7, -⟩ := all_split hwd
     subst hd6 hd7
     obtain ⟨ls, hls⟩ := isStrs_of_trod h0 w0
     exact ⟨⟨ls, ⟨i0, i1, i2, i3, i4, i5⟩, s6, s7⟩, fun b o hc => ⟨c0, by simpa using hc 0 (by decide), hls, ⟨by simpa using hc 1 (by decide), by simpa using hc 2 (by decide), by simpa using hc 3 (by decide), by simpa using hc 4 (by decide), by simpa using hc 5 (by decide), by simpa using hc 6 (by decide)⟩,
      ⟨wf_i64 u0, wf_i64 u2, wf_i64 u3, wf_i64 u4, wf_i64 u5⟩, ⟨by simpa using hc 7 (by decide), str_weight w6⟩, by simpa using hc 8 (by decide), str_weight w7⟩⟩) h hw
set_option maxRecDepth 100000 in
theorem isPr_of_trod {base' : Nat} {v : Value} {d : DataW H} {p : List MemPlace} (hv : Value.okWide Tryz.prog w .any base' 25 v) (h : DataW.Trod enc Tryz.prog w base spare held 25 v d p) (hw : (d.weights Tryz.prog 25).all (· ≤ reachBytes) = true) : ∃ o, IsPr w v o := by
 obtain ⟨v0, v1, y0, y1, n, rfl, rfl, _, h0, h1⟩ := open_agg2 Tryz.underlying25 (by kernel_rfl) (by kernel_rfl) hv h
 simp only [DataW.weights, DataW.weightsEach, Tryz.underlying25, List.map_cons, List.map_nil] at hw
 obtain ⟨w0, hw⟩ := all_split hw
 obtain ⟨w1, hw⟩ := all_split hw
 obtain ⟨l0, k0⟩ := isDefs_of_trod h0 w0
 obtain ⟨l1, k1⟩ := isStmts_of_trod h1 w1
 exact ⟨⟨l0, l1⟩, _, _, rfl, k0, k1⟩
end
end Go.Proofs.YtmofdnlefjfcfaaGreatDoor


set_option linter.unusedVariables false
namespace Go.Proofs.YtmofdnlefjfcfaaGreatDoor
set_option maxRecDepth 100000
theorem p_lay : laidOutB Tryz.pinned.checked.prog = true := by kernel_rfl
theorem p_mr : mapsRowed Tryz.pinned.checked.prog = true := by kernel_rfl
theorem p_pk : (Rows.objectProgramsRow.plainKeys == Tryz.pinned.checked.prog.plainKeys) = true := by kernel_rfl
theorem p_sh : Tryz.pinned.checked.prog.stopsHeard = true := by kernel_rfl
theorem p_me : Tryz.pinned.checked.prog.mayEnter = true := by kernel_rfl
theorem p_lf : (Rows.objectProgramsRow.lifted == Tryz.pinned.checked.prog.liftsFinal) = true := by kernel_rfl
theorem p_mk : (Tryz.pinned.checked.prog.make == some Rows.objectProgramsRow.make) = true := by kernel_rfl
end Go.Proofs.YtmofdnlefjfcfaaGreatDoor
