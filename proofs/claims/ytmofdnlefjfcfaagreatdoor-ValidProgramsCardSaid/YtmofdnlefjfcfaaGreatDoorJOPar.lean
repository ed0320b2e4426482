/- The layer object: Parse. -/
import Derived.Test.YtmofdnlefjfcfaaGreatDoorJNumsB
import Derived.Laws.ResultCell
import Derived.StillTailTactics
set_option linter.unusedVariables false
set_option linter.unusedSimpArgs false
namespace Go.Proofs.YtmofdnlefjfcfaaGreatDoor
open Go.RowKit Go.Lib

theorem numRow4 (b : List Int) (k : Nat) : numRow b 4 k = [numOf b (16 * k) 4, numOf b (16 * k + 4) 4, numOf b (16 * k + 8) 4, numOf b (16 * k + 12) 4] := by
 simp only [numRow, List.range_succ, List.range_zero, List.nil_append, List.map_append, List.map_cons, List.map_nil, List.cons_append, List.cons.injEq, and_true]
 refine ⟨?_, ?_, ?_, ?_⟩ <;> (congr 1; omega)
theorem numRow2 (b : List Int) (k : Nat) : numRow b 2 k = [numOf b (8 * k) 4, numOf b (8 * k + 4) 4] := by
 simp only [numRow, List.range_succ, List.range_zero, List.nil_append, List.map_append, List.map_cons, List.map_nil, List.cons_append, List.cons.injEq, and_true]
 refine ⟨?_, ?_⟩ <;> (congr 1; omega)
theorem alloc_at {W : World} {cs : Array Value} {t : TypeId} (l : List Value) (h : cs.toList = l) : ∀ (j : Nat) (u : Value), l[j]? = some u → (W.alloc (.cells cs t)).cell? ⟨W.heap.size, j, none⟩ = some u := by
 intro j u hu
 have := World.news_of_block (w := W.alloc (.cells cs t)) (B := W.heap.size) (cs := cs) (t := t) (fr := (0, 0)) (heap_alloc_new W _) j u (by rw [← h] at hu; simpa using hu)
 rwa [add_plain, Nat.zero_add] at this
theorem five {α : Type} {S : List α} (h : S.length = 5) : ∃ a b c d e, S = [a, b, c, d, e] := by
 match S, h with
 | [a, b, c, d, e], _ => exact ⟨a, b, c, d, e, rfl⟩
/-- An object's block. -/
def RowO (w : World) (g : Nat) (v1 v2 v3 : Value) : Prop := w.heap[g]? = some (.cells #[v1, v2, v3] 31 (0, 0))
theorem RowO.c0 {w : World} {g : Nat} {v1 v2 v3 : Value} (h : RowO w g v1 v2 v3) : w.cell? ⟨g, 0, none⟩ = some v1 := by simp [World.cell?, show w.heap[g]? = _ from h]
theorem RowO.c1 {w : World} {g : Nat} {v1 v2 v3 : Value} (h : RowO w g v1 v2 v3) : w.cell? ⟨g, 1, none⟩ = some v2 := by simp [World.cell?, show w.heap[g]? = _ from h]
theorem RowO.c2 {w : World} {g : Nat} {v1 v2 v3 : Value} (h : RowO w g v1 v2 v3) : w.cell? ⟨g, 2, none⟩ = some v3 := by simp [World.cell?, show w.heap[g]? = _ from h]
theorem RowO.fz {w : World} {g : Nat} {v1 v2 v3 : Value} (h : RowO w g v1 v2 v3) (i : Nat) : w.frozen? ⟨g, i, none⟩ = false := by simp [World.frozen?, show w.heap[g]? = _ from h]
theorem RowO.ext {w w' : World} {g : Nat} {v1 v2 v3 : Value} (h : RowO w g v1 v2 v3) (he : Ext w w') : RowO w' g v1 v2 v3 := he.obj h
theorem RowO.lt {w : World} {g : Nat} {v1 v2 v3 : Value} (h : RowO w g v1 v2 v3) : g < w.heap.size := (Array.getElem?_eq_some_iff.1 h).1
theorem RowO.keep {w w' : World} {g : Nat} {v1 v2 v3 : Value} {row : Option Nat} (h : RowO w g v1 v2 v3) (hg : w.grownBy w' row) (hne : some g ≠ row) : RowO w' g v1 v2 v3 := (hg.block g h.lt hne).trans h
theorem RowO.s0 {w : World} {g : Nat} {v1 v2 v3 : Value} (h : RowO w g v1 v2 v3) (u : Value) : RowO (w.setCell ⟨g, 0, none⟩ u) g u v2 v3 := by
 unfold RowO at *
 simp [World.setCell, Array.getElem?_modify, h]
theorem RowO.s1 {w : World} {g : Nat} {v1 v2 v3 : Value} (h : RowO w g v1 v2 v3) (u : Value) : RowO (w.setCell ⟨g, 1, none⟩ u) g v1 u v3 := by
 unfold RowO at *
 simp [World.setCell, Array.getElem?_modify, h]
theorem RowO.s2 {w : World} {g : Nat} {v1 v2 v3 : Value} (h : RowO w g v1 v2 v3) (u : Value) : RowO (w.setCell ⟨g, 2, none⟩ u) g v1 v2 u := by
 unfold RowO at *
 simp [World.setCell, Array.getElem?_modify, h]
theorem Own.neO {α : Type} {e : TypeId} {sz : Nat} {enc : α → List Value} {w : World} {B g : Nat} {v v1 v2 v3 : Value} {l : List α} (h : Own e sz enc w B v l) (hne : e ≠ 31) (k : RowO w g v1 v2 v3) : some g ≠ v.ownBlock := by
 rcases h.2 with ⟨rfl, _⟩ | ⟨g', cap', cur', rfl, _, hh', _⟩
 ·simp [Value.ownBlock]
 ·intro he
  have : g = g' := by simpa [Value.ownBlock] using he
  subst this
  unfold RowO at k
  rw [hh'] at k
  injection k with k
  injection k with _ ht
  exact hne ht
theorem rowO_new (w : World) (v1 v2 v3 : Value) : RowO (w.alloc (.cells #[v1, v2, v3] 31)) w.heap.size v1 v2 v3 := heap_alloc_new w _

theorem OwnD.read {w : World} {B : Nat} {v : Value} {l : List Def} (h : OwnD w B v l) (hk : ∀ d ∈ l, d.Ok) (hl : l.length ≤ 281474976710656) : IsDefs w v l :=
 Own.read encD_ok h hl fun x hx b o hc => ⟨⟨by simpa using hc 0 _ rfl, hc 1 _ rfl, hc 2 _ rfl, hc 3 _ rfl⟩, hk x hx⟩
theorem OwnR.read {w : World} {B : Nat} {v : Value} {l : List Rel} (h : OwnR w B v l) (hk : ∀ d ∈ l, d.Ok) (hl : l.length ≤ 281474976710656) : IsRels w v l :=
 Own.read encR_ok h hl fun x hx b o hc => ⟨⟨by simpa using hc 0 _ rfl, hc 1 _ rfl⟩, hk x hx⟩
theorem mDefs_ok {b : List Int} (hb : Byt b) {T : List ByteArray} (hT : ∀ s ∈ T, s.size ≤ 140737488355328) : ∀ d ∈ mDefs b T, d.Ok := by
 intro d hd
 obtain ⟨k, hk, rfl⟩ := List.mem_mapIdx.1 hd
 have h := fun a => numOf_nonneg hb a 4 (by omega)
 refine ⟨hT _ (List.getElem_mem _), ?_, ?_, ?_⟩
 ·have := h (16 * k); simp only [mDef]; unfold I64; omega
 ·have := h (16 * k + 4); simp only [mDef]; unfold I64; omega
 ·have := h (16 * k + 8); simp only [mDef]; unfold I64; omega
theorem mRels_ok {b : List Int} (hb : Byt b) (n : Nat) : ∀ d ∈ mRels b n, d.Ok := by
 intro d hd
 obtain ⟨k, hk, rfl⟩ := List.mem_map.1 hd
 have h := fun a => numOf_nonneg hb a 4 (by omega)
 refine ⟨?_, ?_⟩
 ·have := h (8 * k); simp only [mRel]; unfold I64; omega
 ·have := h (8 * k + 4); simp only [mRel]; unfold I64; omega
theorem ext_o3 {w W : World} {B : Nat} (h : Ext w W) (hB : w.heap.size ≤ B) (a b c : Value) : Ext w (((W.setCell ⟨B, 0, none⟩ a).setCell ⟨B, 1, none⟩ b).setCell ⟨B, 2, none⟩ c) :=
 ((h.setCell (a := ⟨B, 0, none⟩) _ hB).setCell (a := ⟨B, 1, none⟩) _ hB).setCell (a := ⟨B, 2, none⟩) _ hB
theorem cell_set3 (W : World) (B b o : Nat) (x y z : Value) (h : b ≠ B) : (((W.setCell ⟨B, 0, none⟩ x).setCell ⟨B, 1, none⟩ y).setCell ⟨B, 2, none⟩ z).cell? ⟨b, o, none⟩ = W.cell? ⟨b, o, none⟩ := by
 have hs : ∀ (W : World) (i : Nat) (u : Value), (W.setCell ⟨B, i, none⟩ u).heap[b]? = W.heap[b]? := fun W i u => by
  simp [World.setCell, Array.getElem?_modify, h.symm]
 simp only [World.cell?, hs]
theorem RowO.ne {W : World} {B b o : Nat} {a1 a2 a3 : Option Addr} {n1 n2 n3 c1 c2 c3 : Nat} {u : Value} (h : RowO W B (.slice a1 n1 c1) (.slice a2 n2 c2) (.slice a3 n3 c3)) (hc : W.cell? ⟨b, o, none⟩ = some u) (hu : ∀ a n c, u ≠ .slice a n c) : b ≠ B := by
 intro e
 subst e
 match o with
 | 0 => rw [h.c0] at hc; exact hu _ _ _ (Option.some.inj hc).symm
 | 1 => rw [h.c1] at hc; exact hu _ _ _ (Option.some.inj hc).symm
 | 2 => rw [h.c2] at hc; exact hu _ _ _ (Option.some.inj hc).symm
 | n + 3 => simp [World.cell?, show W.heap[b]? = _ from h] at hc
theorem isOb_set3 {W : World} {B : Nat} {a1 a2 a3 : Option Addr} {n1 n2 n3 c1 c2 c3 : Nat} {v : Value} {O : Ob} (h : RowO W B (.slice a1 n1 c1) (.slice a2 n2 c2) (.slice a3 n3 c3)) (ho : IsOb W v O) (x y z : Value) :
  IsOb (((W.setCell ⟨B, 0, none⟩ x).setCell ⟨B, 1, none⟩ y).setCell ⟨B, 2, none⟩ z) v O := by
 have key : ∀ (b o : Nat) (u : Value), W.cell? ⟨b, o, none⟩ = some u → (∀ a n c, u ≠ .slice a n c) → (((W.setCell ⟨B, 0, none⟩ x).setCell ⟨B, 1, none⟩ y).setCell ⟨B, 2, none⟩ z).cell? ⟨b, o, none⟩ = some u := fun b o u hc hu => by
  rw [cell_set3 W B b o x y z (h.ne hc hu)]; exact hc
 obtain ⟨v1, v2, v3, rfl, h1, h2, h3⟩ := ho
 refine ⟨v1, v2, v3, rfl, Sl.ext h1 fun b o d k => ⟨⟨key _ _ _ k.1.1 (by intro a n c e; cases e), key _ _ _ k.1.2.1 (by intro a n c e; cases e), key _ _ _ k.1.2.2.1 (by intro a n c e; cases e), key _ _ _ k.1.2.2.2 (by intro a n c e; cases e)⟩, k.2⟩,
  Sl.ext h2 fun b o d k => ⟨key _ _ _ k.1 (by intro a n c e; cases e), k.2⟩, Sl.ext h3 fun b o d k => ⟨⟨key _ _ _ k.1.1 (by intro a n c e; cases e), key _ _ _ k.1.2 (by intro a n c e; cases e)⟩, k.2⟩⟩
theorem isOb_nil (w : World) : IsOb w (.agg #[.slice none 0 0, .slice none 0 0, .slice none 0 0]) obNil := ⟨_, _, _, rfl, Sl.nil _, Sl.nil _, Sl.nil _⟩
set_option maxRecDepth 100000 in
set_option maxHeartbeats 4000000 in
theorem object_Parse_any (v : Value) (b : List Int) (w : World) (hv : IsB w v b) (hb : b.length ≤ 1000000) (hG : Glob w) (hN : NoneV w) :
  Calls Tryz.prog 10 #[v] w fun e w' => ∃ v', e = .returned (.tuple #[v', .int .i64 (paErr b)]) ∧ IsOb w' v' (paOut b) ∧ Ext w w' := by
 obtain ⟨A, c, rfl, hc, -, hv'⟩ := hv.form
 have e0 := Ext.new w (.cells #[.slice none 0 0, .slice none 0 0, .slice none 0 0] 31)
 have r0 := rowO_new w (.slice none 0 0) (.slice none 0 0) (.slice none 0 0)
 have hRd := box_Read_any _ b _ (IsB.ext hv' e0) hb
 obtain ⟨W0, hW0⟩ : ∃ W0, W0 = w.alloc (.cells #[.slice none 0 0, .slice none 0 0, .slice none 0 0] 31) := ⟨_, rfl⟩
 rw [← hW0] at hRd e0 r0
 rw [hW0] at hRd
 have HW0 := hx hW0
 have hB : w.heap.size < W0.heap.size := by rw [hW0]; simp
 clear hW0
 obtain ⟨B, hBB⟩ : ∃ B, B = w.heap.size := ⟨_, rfl⟩
 by_cases hok : rdOk b
 case neg =>
  have hE := hx (show paErr b = 19 ∧ paOut b = obNil by
   have : ¬ paOk b := fun h => hok h.1
   unfold paErr paOut; rw [if_neg this, if_neg this]; exact ⟨rfl, rfl⟩)
  have e1 : rdErr b = 19 := by unfold rdErr; rw [if_neg hok]
  rw [e1] at hRd
  clear e1 hok
  go_enter Tryz.func10, Tryz.ntmps10
  go_wp2_with (first | (go_at_call 33; refine hRd.mono ?_; rintro e w1 ⟨v1, rfl, s1, e1⟩; rw [← HW0.out] at e1; have r1 := r0.ext e1; have k0 := r1.c0; have k1 := r1.c1; have k2 := r1.c2; have f1 := r1.fz))
  refine bodyPost_ret (results_row_tmp rfl _ _ w.heap.size 31 _ _ _ rfl (((r1.s0 _).s1 _).s2 _) Tryz.underlying31 rfl (by kernel_rfl)) rfl ?_
  exact ⟨_, by rw [hE.out.1]; rfl, by rw [hE.out.2]; exact isOb_nil _, ext_o3 (e0.trans e1) (Nat.le_refl _) _ _ _⟩
 have e1 : rdErr b = 0 := by unfold rdErr; rw [if_pos hok]
 rw [e1] at hRd
 clear e1
 by_cases h5 : (rdOut b).length = 5
 case neg =>
  have hE := hx (show paErr b = 19 ∧ paOut b = obNil by
   have : ¬ paOk b := fun h => h5 h.2.1
   unfold paErr paOut; rw [if_neg this, if_neg this]; exact ⟨rfl, rfl⟩)
  have hn5 : (((rdOut b).length : Int) != 5) = true := by simp; omega
  clear hok h5
  generalize rdOut b = S at *
  go_enter Tryz.func10, Tryz.ntmps10
  go_wp2_with (first | (go_at_call 33; refine hRd.mono ?_; rintro e w1 ⟨v1, rfl, s1, e1⟩; rw [← HW0.out] at e1; obtain ⟨A1, c1, rfl, -, -, s1'⟩ := s1.form; have r1 := r0.ext e1; have k0 := r1.c0; have k1 := r1.c1; have k2 := r1.c2; have f1 := r1.fz))
  refine bodyPost_ret (results_row_tmp rfl _ _ w.heap.size 31 _ _ _ rfl (((r1.s0 _).s1 _).s2 _) Tryz.underlying31 rfl (by kernel_rfl)) rfl ?_
  exact ⟨_, by rw [hE.out.1]; rfl, by rw [hE.out.2]; exact isOb_nil _, ext_o3 (e0.trans e1) (Nat.le_refl _) _ _ _⟩
 obtain ⟨s0, s1, s2, s3, s4, hS⟩ := five h5
 rw [hS] at hRd
 have HS := hx hS
 have HOK := hx hok
 have hpa := hx (show paOk b ↔ (parB s4.data = true ∧ s1.data.length = 16 * (parL s4.data).length ∧ s3.data.length % 8 = 0 ∧ obE (obOf [s0, s1, s2, s3, s4]) = 0 ∧ packOf (obOf [s0, s1, s2, s3, s4]) = b) by
  unfold paOk
  rw [hS]
  exact ⟨fun h => h.2.2, fun h => ⟨hok, rfl, h⟩⟩)
 clear hok h5 hS
 go_enter Tryz.func10, Tryz.ntmps10
 go_wp2_with fail
 refine hRd.mono ?_
 rintro e w1 ⟨v1, rfl, sx, e1⟩
 rw [← HW0.out] at e1
 obtain ⟨A1, c1, rfl, -, -, sx'⟩ := sx.form
 obtain ⟨bs, os, rfl, ⟨⟨-, -⟩, v0, t0, i0⟩⟩ := sx'.get (i := 0) rfl
 obtain ⟨_, _, hq, ⟨⟨-, -⟩, u1, t1, i1⟩⟩ := sx'.get (i := 1) rfl
 cases hq
 obtain ⟨_, _, hq, ⟨⟨-, -⟩, u3, t3, i3⟩⟩ := sx'.get (i := 3) rfl
 cases hq
 obtain ⟨_, _, hq, ⟨⟨-, -⟩, u4, t4, i4⟩⟩ := sx'.get (i := 4) rfl
 cases hq
 simp only [Nat.zero_mul, Nat.add_zero, Nat.one_mul, Nat.reduceMul] at t0 t1 t3 t4
 simp only [List.length_cons, List.length_nil]
 have hlen : ∀ s ∈ [s0, s1, s2, s3, s4], s.data.length ≤ b.length := fun s hs => by
  obtain ⟨_, _, e3⟩ := rdOk_spec HOK.out
  rw [HS.out] at e3
  have h1 := boxOf_length [s0, s1, s2, s3, s4]
  rw [e3] at h1
  obtain ⟨p, q, hpq⟩ := List.append_of_mem hs
  have := secSize_mem p q s
  rw [← hpq] at this
  omega
 have hn1 := hx (numbers_any u1 s1.data 4 w1 (by omega) (by omega) i1 (by have := hlen s1 (by simp); omega))
 have hl1 := hx (show s1.data.length ≤ 1000000 by have := hlen s1 (by simp); omega)
 have hl3 := hx (show s3.data.length ≤ 1000000 by have := hlen s3 (by simp); omega)
 have hl4 := hx (show s4.data.length ≤ 1000000 by have := hlen s4 (by simp); omega)
 have hl0 := hx (show s0.data.length ≤ 1000000 by have := hlen s0 (by simp); omega)
 clear hlen
 go_wp2_with fail
 refine hn1.out.mono ?_
 rintro e w2 ⟨vd, rfl, rd, x2⟩
 have t3' := x2.cell t3
 have hn3 := hx (numbers_any u3 s3.data 2 w2 (by omega) (by omega) (IsB.ext i3 x2) (by have := hl3.out; omega))
 have HT0 := hx t0
 have HT3 := hx t3
 have HT4 := hx t4
 clear hn1 t0 t1 t3 t4
 go_wp2_with fail
 refine hn3.out.mono ?_
 rintro e w3 ⟨vr, rfl, rr, x3⟩
 have t4' := (x2.trans x3).cell HT4.out
 have hp4 := hx (strtab_Parse_any u4 s4.data w3 (IsB.ext i4 (x2.trans x3)) (by have := hl4.out; omega))
 clear hn3 t3'
 go_wp2_with fail
 refine hp4.out.mono ?_
 rintro e w4 ⟨vt, vo, rfl, rt, x4⟩
 clear hp4 t4'
 have E4 := e1.trans ((x2.trans x3).trans x4)
 have t0' := ((x2.trans x3).trans x4).cell HT0.out
 replace i0 := IsB.ext i0 ((x2.trans x3).trans x4)
 replace rd := IsRows.ext rd (x3.trans x4)
 replace rr := IsRows.ext rr x4
 have ew4 := e0.trans E4
 have r4 := r0.ext E4
 have hB1 := hx i1.byt
 have hB3 := hx i3.byt
 clear r0 HT0 HT3 HT4 i1 i3 i4 x2 x3 x4 hRd sx sx' e1
 have k0 := r4.c0
 have k1 := r4.c1
 have k2 := r4.c2
 have f1 := r4.fz
 obtain ⟨Ad, cd, rfl, -, -, rd'⟩ := rd.form
 obtain ⟨Ar, cr, rfl, -, -, rr'⟩ := rr.form
 obtain ⟨At, ct, rfl, -, -, rt'⟩ := rt.form
 obtain ⟨A0, c0, rfl, -, -, i0'⟩ := i0.form
 by_cases hall : s1.data.length % 16 = 0 ∧ s3.data.length % 8 = 0 ∧ parB s4.data = true ∧ (parL s4.data).length = s1.data.length / 16
 case neg =>
  have hE := hx (show paErr b = 19 ∧ paOut b = obNil by
   have : ¬ paOk b := fun h => hall (by have h' := hpa.out.1 h; exact ⟨by omega, h'.2.2.1, h'.1, by omega⟩)
   unfold paErr paOut; rw [if_neg this, if_neg this]; exact ⟨rfl, rfl⟩)
  obtain ⟨D1, hD1⟩ : ∃ D, D = decide (s1.data.length % (4 * 4) = 0) := ⟨_, rfl⟩
  obtain ⟨D3, hD3⟩ : ∃ D, D = decide (s3.data.length % (4 * 2) = 0) := ⟨_, rfl⟩
  obtain ⟨PE, hPE⟩ : ∃ D, D = parE s4.data := ⟨_, rfl⟩
  obtain ⟨L1, hL1⟩ : ∃ D, D = (numRows s1.data 4).length := ⟨_, rfl⟩
  obtain ⟨L4, hL4⟩ : ∃ D, D = (parL s4.data).length := ⟨_, rfl⟩
  rw [← hD1, ← hD3, ← hPE, ← hL1, ← hL4]
  have hbad : Hx (¬ (D1 = true ∧ D3 = true ∧ PE = 0 ∧ L4 = L1)) := ⟨fun ⟨c1, c2, c3, c4⟩ => by
   rw [hD1, decide_eq_true_eq] at c1
   rw [hD3, decide_eq_true_eq] at c2
   rw [hPE, parE] at c3
   rw [hL1, hL4, numRows, if_pos c1, List.length_map, List.length_range] at c4
   refine hall ⟨by omega, by omega, ?_, by omega⟩
   split at c3
   ·assumption
   ·omega⟩
  clear hall hD1 hD3 hPE hL1 hL4 hpa rd' rr' rt' rd rr rt i0 hl0 hl1 hl3 hl4
  cases D1 with
  | false =>
   go_wp2
   refine bodyPost_ret (results_row_tmp rfl _ _ w.heap.size 31 _ _ _ rfl (((r4.s0 _).s1 _).s2 _) Tryz.underlying31 rfl (by kernel_rfl)) rfl ?_
   exact ⟨_, by rw [hE.out.1]; rfl, by rw [hE.out.2]; exact isOb_nil _, ext_o3 ew4 (Nat.le_refl _) _ _ _⟩
  | true =>
   cases D3 with
   | false =>
    go_wp2
    refine bodyPost_ret (results_row_tmp rfl _ _ w.heap.size 31 _ _ _ rfl (((r4.s0 _).s1 _).s2 _) Tryz.underlying31 rfl (by kernel_rfl)) rfl ?_
    exact ⟨_, by rw [hE.out.1]; rfl, by rw [hE.out.2]; exact isOb_nil _, ext_o3 ew4 (Nat.le_refl _) _ _ _⟩
   | true =>
    by_cases hp : PE = 0
    ·have hne : ((L4 : Int) != L1) = true := by
      have : ¬ L4 = L1 := fun h => hbad.out ⟨rfl, rfl, hp, h⟩
      simp; omega
     subst hp
     go_wp2
     refine bodyPost_ret (results_row_tmp rfl _ _ w.heap.size 31 _ _ _ rfl (((r4.s0 _).s1 _).s2 _) Tryz.underlying31 rfl (by kernel_rfl)) rfl ?_
     exact ⟨_, by rw [hE.out.1]; rfl, by rw [hE.out.2]; exact isOb_nil _, ext_o3 ew4 (Nat.le_refl _) _ _ _⟩
    ·have hne : (PE != 0) = true := by simpa using hp
     go_wp2
     refine bodyPost_ret (results_row_tmp rfl _ _ w.heap.size 31 _ _ _ rfl (((r4.s0 _).s1 _).s2 _) Tryz.underlying31 rfl (by kernel_rfl)) rfl ?_
     exact ⟨_, by rw [hE.out.1]; rfl, by rw [hE.out.2]; exact isOb_nil _, ext_o3 ew4 (Nat.le_refl _) _ _ _⟩
 obtain ⟨h16, h8, hpb, hln⟩ := hall
 have hb1 : numRows s1.data 4 = (List.range (s1.data.length / 16)).map (numRow s1.data 4) := by unfold numRows; rw [if_pos (by omega)]
 have hb3 : numRows s3.data 2 = (List.range (s3.data.length / 8)).map (numRow s3.data 2) := by unfold numRows; rw [if_pos (by omega)]
 have hl1' : (numRows s1.data 4).length = (parL s4.data).length := by rw [hb1, hln]; simp
 have hd1 : decide (s1.data.length % (4 * 4) = 0) = true := by simp; omega
 have hd3 : decide (s3.data.length % (4 * 2) = 0) = true := by simp; omega
 have hpe : parE s4.data = 0 := by unfold parE; rw [if_pos hpb]
 rw [hd1, hd3, hpe, hl1']
 rw [hl1'] at rd'
 obtain ⟨n, hn⟩ : ∃ n, n = (parL s4.data).length := ⟨_, rfl⟩
 obtain ⟨m, hm⟩ : ∃ m, m = (numRows s3.data 2).length := ⟨_, rfl⟩
 rw [← hn, ← hm]
 rw [← hn] at rd' rt'
 rw [← hm] at rr'
 have HN := hx hn
 have HM := hx hm
 have HB1 := hx hb1
 have HB3 := hx hb3
 have H16 := hx h16
 have H8 := hx h8
 have HPB := hx hpb
 have HLN := hx hln
 have hnb : n ≤ 100000 := by have := hl1.out; omega
 have hmb : m ≤ 1000000 := by have := hl3.out; rw [hm, hb3]; simp; omega
 clear hn hm hb1 hb3 hl1' hd1 hd3 hpe h16 h8 hpb hln
 go_wp2
 refine name_world ?_
 intro W5 hW5
 obtain ⟨Bo, hBo⟩ : ∃ Bo, Bo = w4.heap.size := ⟨_, rfl⟩
 have q5 : RowO W5 Bo (.slice none 0 0) (.slice A0 s0.data.length c0) (.slice none 0 0) := by rw [hW5, hBo]; exact rowO_new _ _ _ _
 have x5 : Ext w4 W5 := by rw [hW5]; exact Ext.new _ _
 have hsz5 : Bo < W5.heap.size := by rw [hW5, hBo]; simp
 rw [← hBo]
 have HBo := hx hBo
 clear hW5 hBo
 go_loopw [82] (fun i wr => ∃ (pre suf : List ByteArray) (l : List Def) (u : Value), parL s4.data = pre ++ suf ∧ i = .int .i64 (pre.length : Nat) ∧ l = mDefs s1.data pre ∧ l.length = pre.length ∧ RowO wr Bo u (.slice A0 s0.data.length c0) (.slice none 0 0) ∧ OwnD wr W5.heap.size u l ∧ Ext w4 wr ∧ W5.heap.size ≤ wr.heap.size) (fun i _ => n - (RowKit.intOf i).toNat)
 case atStart => exact ⟨[], _, [], _, rfl, rfl, rfl, rfl, q5, Own.nil _ _ _ _ _, x5, Nat.le_refl _⟩
 case round =>
  clear q5 x5
  obtain ⟨pre, suf, l, u, hl', rfl, hml, hmn, q, ho, he, hsz⟩ := hrel
  have HML := hx hml
  have HMN := hx hmn
  clear hml hmn
  obtain ⟨A7, c7, rfl⟩ := ho.slice
  cases suf with
  | cons x suf =>
   have hlt : pre.length < n := by rw [HN.out, hl']; simp
   have hvx := rt'
   rw [hl'] at hvx
   obtain ⟨bt, ot, rfl, t1, -⟩ := hvx.at
   rw [Nat.mul_one] at t1
   obtain ⟨bd, od, rfl, ⟨⟨gd, t2, rg⟩, hbd⟩⟩ := rd'.get (i := pre.length) (x := numRow s1.data 4 pre.length) (by rw [HB1.out, List.getElem?_map, List.getElem?_range (by rw [← HLN.out, ← HN.out]; exact hlt)]; rfl)
   rw [numRow_length] at t2
   rw [Nat.mul_one] at t2
   replace t2 := he.cell t2
   rw [numRow4] at rg
   have g0 := rg.cell (i := 0) rfl
   have g1 := rg.cell (i := 1) rfl
   have g2 := rg.cell (i := 2) rfl
   have HL := hx hl'
   clear hl' hvx rg
   have T1 := hx t1
   have G0 := hx g0
   have G1 := hx g1
   have G2 := hx g2
   replace g0 := he.cell g0
   replace g1 := he.cell g1
   replace g2 := he.cell g2
   replace t1 := he.cell t1
   have q0 := q.c0
   have fq := q.fz
   clear k0 k1 k2 f1
   go_wp2_with fail
   obtain ⟨C, hC⟩ : ∃ C : Obj, C = (.cells #[.string x, .int .i64 (numOf s1.data (16 * pre.length) 4), .int .i64 (numOf s1.data (16 * pre.length + 4) 4), .int .i64 (numOf s1.data (16 * pre.length + 8) 4)] 65) := ⟨_, rfl⟩
   have hoA : OwnD (wr.alloc C).drew W5.heap.size (.slice A7 l.length c7) l := ho.ext ((Ext.new wr C).drew)
   have qA : RowO (wr.alloc C).drew Bo (.slice A7 l.length c7) (.slice A0 s0.data.length c0) (.slice none 0 0) := q.ext ((Ext.new wr C).drew)
   have hcA : ∀ (j : Nat) (u : Value), (mDef s1.data pre.length x).enc[j]? = some u → (wr.alloc C).drew.cell? ⟨wr.heap.size, j, none⟩ = some u := by rw [hC]; exact alloc_at _ rfl
   have eA : Ext w4 (wr.alloc C).drew := (he.alloc C).drew
   have hsA : W5.heap.size ≤ (wr.alloc C).drew.heap.size := Nat.le_trans hsz (Ext.new wr C).size
   have hbA : ∀ k, (Value.slice A7 l.length c7).ownBlock = some k → w4.heap.size ≤ k := fun k hk => Nat.le_trans (Nat.le_of_lt (by rw [← HBo.out]; exact hsz5)) (ho.base_le k hk)
   have qA0 := qA.c0
   subst hC
   have hln : l.length ≤ 100000 := by have := HMN.out; omega
   have i1 : (0 : Int) ≤ (pre.length : Int) := by omega
   have i2 : (pre.length : Int) < (n : Int) := by omega
   have hBo5 : w4.heap.size ≤ Bo := by rw [HBo.out]; exact Nat.le_refl _
   have hlA : (l.length + 1) * 40 ≤ 140737488355328 := by omega
   clear ho hsz
   refine wp_region_held (S := (fun w' : World => w'.cell? ⟨bt, ot + pre.length, none⟩ = some (.string x) ∧ w'.cell? ⟨gd, 0, none⟩ = some (.int .i64 (numOf s1.data (16 * pre.length) 4)) ∧ w'.cell? ⟨gd, 1, none⟩ = some (.int .i64 (numOf s1.data (16 * pre.length + 4) 4)) ∧ w'.cell? ⟨gd, 2, none⟩ = some (.int .i64 (numOf s1.data (16 * pre.length + 8) 4)))) (by kernel_rfl) ?_
   change wpAnyH _ _ _ _ _ 20 _ _ wr.drew
   have hS0 : (fun w' : World => w'.cell? ⟨bt, ot + pre.length, none⟩ = some (.string x) ∧ w'.cell? ⟨gd, 0, none⟩ = some (.int .i64 (numOf s1.data (16 * pre.length) 4)) ∧ w'.cell? ⟨gd, 1, none⟩ = some (.int .i64 (numOf s1.data (16 * pre.length + 4) 4)) ∧ w'.cell? ⟨gd, 2, none⟩ = some (.int .i64 (numOf s1.data (16 * pre.length + 8) 4))) wr.drew := ⟨t1, g0, g1, g2⟩
   refine wpAnyH_take (i := 0) (v := .pointer (some ⟨Bo, 0, none⟩)) rfl (by kernel_rfl) (by kernel_rfl) (by kernel_rfl) (fun _ _ _ h => h) (.inl ⟨by rfl, ?_⟩) hS0 ?_
   ·intro W' hW'; (try dsimp only at hW'); go_simp
   simp only [Act.put, List.setIfInBounds_toArray, List.set_cons_zero, List.set_cons_succ]
   refine wpAnyH_take (i := 2) (v := .slice (some ⟨bt, ot, none⟩) n ct) rfl (by kernel_rfl) (by kernel_rfl) (by kernel_rfl) (fun _ _ _ h => h) (.inl ⟨by rfl, ?_⟩) hS0 ?_
   ·intro W' hW'; (try dsimp only at hW'); go_simp
   simp only [Act.put, List.setIfInBounds_toArray, List.set_cons_zero, List.set_cons_succ]
   refine wpAnyH_take (i := 3) (v := .int .i64 (pre.length : Int)) rfl (by kernel_rfl) (by kernel_rfl) (by kernel_rfl) (fun _ _ _ h => h) (.inl ⟨by rfl, ?_⟩) hS0 ?_
   ·intro W' hW'; (try dsimp only at hW'); go_simp
   simp only [Act.put, List.setIfInBounds_toArray, List.set_cons_zero, List.set_cons_succ]
   refine wpAnyH_take (i := 4) (v := .pointer (some ⟨bt, ot + pre.length, none⟩)) rfl (by kernel_rfl) (by kernel_rfl) (by kernel_rfl) (fun _ _ _ h => h) (.inl ⟨by rfl, ?_⟩) hS0 ?_
   ·intro W' hW'; (try dsimp only at hW'); go_simp
   simp only [Act.put, List.setIfInBounds_toArray, List.set_cons_zero, List.set_cons_succ]
   refine wpAnyH_take (i := 5) (v := .string x) rfl (by kernel_rfl) (by kernel_rfl) (by kernel_rfl) (fun _ _ _ h => h) (.inl ⟨by rfl, ?_⟩) hS0 ?_
   ·intro W' hW'; (try dsimp only at hW'); go_simp
   simp only [Act.put, List.setIfInBounds_toArray, List.set_cons_zero, List.set_cons_succ]
   refine wpAnyH_take (i := 6) (v := .slice (some ⟨gd, 0, none⟩) 4 4) rfl (by kernel_rfl) (by kernel_rfl) (by kernel_rfl) (fun _ _ _ h => h) (.inl ⟨by rfl, ?_⟩) hS0 ?_
   ·intro W' hW'; (try dsimp only at hW'); go_simp
   simp only [Act.put, List.setIfInBounds_toArray, List.set_cons_zero, List.set_cons_succ]
   refine wpAnyH_take (i := 7) (v := .pointer (some ⟨gd, 0, none⟩)) rfl (by kernel_rfl) (by kernel_rfl) (by kernel_rfl) (fun _ _ _ h => h) (.inl ⟨by rfl, ?_⟩) hS0 ?_
   ·intro W' hW'; (try dsimp only at hW'); go_simp
   simp only [Act.put, List.setIfInBounds_toArray, List.set_cons_zero, List.set_cons_succ]
   refine wpAnyH_take (i := 8) (v := .int .i64 (numOf s1.data (16 * pre.length) 4)) rfl (by kernel_rfl) (by kernel_rfl) (by kernel_rfl) (fun _ _ _ h => h) (.inl ⟨by rfl, ?_⟩) hS0 ?_
   ·intro W' hW'; (try dsimp only at hW'); go_simp
   simp only [Act.put, List.setIfInBounds_toArray, List.set_cons_zero, List.set_cons_succ]
   refine wpAnyH_take (i := 9) (v := .slice (some ⟨gd, 0, none⟩) 4 4) rfl (by kernel_rfl) (by kernel_rfl) (by kernel_rfl) (fun _ _ _ h => h) (.inl ⟨by rfl, ?_⟩) hS0 ?_
   ·intro W' hW'; (try dsimp only at hW'); go_simp
   simp only [Act.put, List.setIfInBounds_toArray, List.set_cons_zero, List.set_cons_succ]
   refine wpAnyH_take (i := 10) (v := .pointer (some ⟨gd, 1, none⟩)) rfl (by kernel_rfl) (by kernel_rfl) (by kernel_rfl) (fun _ _ _ h => h) (.inl ⟨by rfl, ?_⟩) hS0 ?_
   ·intro W' hW'; (try dsimp only at hW'); go_simp
   simp only [Act.put, List.setIfInBounds_toArray, List.set_cons_zero, List.set_cons_succ]
   refine wpAnyH_take (i := 11) (v := .int .i64 (numOf s1.data (16 * pre.length + 4) 4)) rfl (by kernel_rfl) (by kernel_rfl) (by kernel_rfl) (fun _ _ _ h => h) (.inl ⟨by rfl, ?_⟩) hS0 ?_
   ·intro W' hW'; (try dsimp only at hW'); go_simp
   simp only [Act.put, List.setIfInBounds_toArray, List.set_cons_zero, List.set_cons_succ]
   refine wpAnyH_take (i := 12) (v := .slice (some ⟨gd, 0, none⟩) 4 4) rfl (by kernel_rfl) (by kernel_rfl) (by kernel_rfl) (fun _ _ _ h => h) (.inl ⟨by rfl, ?_⟩) hS0 ?_
   ·intro W' hW'; (try dsimp only at hW'); go_simp
   simp only [Act.put, List.setIfInBounds_toArray, List.set_cons_zero, List.set_cons_succ]
   refine wpAnyH_take (i := 13) (v := .pointer (some ⟨gd, 2, none⟩)) rfl (by kernel_rfl) (by kernel_rfl) (by kernel_rfl) (fun _ _ _ h => h) (.inl ⟨by rfl, ?_⟩) hS0 ?_
   ·intro W' hW'; (try dsimp only at hW'); go_simp
   simp only [Act.put, List.setIfInBounds_toArray, List.set_cons_zero, List.set_cons_succ]
   refine wpAnyH_take (i := 14) (v := .int .i64 (numOf s1.data (16 * pre.length + 8) 4)) rfl (by kernel_rfl) (by kernel_rfl) (by kernel_rfl) (fun _ _ _ h => h) (.inl ⟨by rfl, ?_⟩) hS0 ?_
   ·intro W' hW'; (try dsimp only at hW'); go_simp
   simp only [Act.put, List.setIfInBounds_toArray, List.set_cons_zero, List.set_cons_succ]
   refine wpAnyH_take (i := 15) (v := .agg #[.string x, .int .i64 (numOf s1.data (16 * pre.length) 4), .int .i64 (numOf s1.data (16 * pre.length + 4) 4), .int .i64 (numOf s1.data (16 * pre.length + 8) 4)]) rfl (by kernel_rfl) (by kernel_rfl) (by kernel_rfl) (fun _ _ _ h => h) (.inl ⟨by rfl, ?_⟩) hS0 ?_
   ·intro W' hW'; (try dsimp only at hW'); go_simp
   simp only [Act.put, List.setIfInBounds_toArray, List.set_cons_zero, List.set_cons_succ]
   refine wpAnyH_ready (rs := [1, 16]) (by kernel_rfl) (by simp) ?_
   refine AllReadyH.cons rfl (fun K hK => ?_) (AllReadyH.cons rfl (fun K hK => ?_) AllReadyH.nil)
   ·skip
    go_simp
    refine hK.out _ _ ?_ (fun _ => ?_)
    ·exact hS0
    clear hK K
    refine wpAnyH_ready (rs := [16]) (by kernel_rfl) (by simp) ?_
    refine AllReadyH.cons rfl (fun K hK => ?_) AllReadyH.nil
    go_simp
    refine hK.out _ _ ?_ (fun _ => ?_)
    ·exact ⟨Ext.cell eA T1.out, Ext.cell eA G0.out, Ext.cell eA G1.out, Ext.cell eA G2.out⟩
    clear hK K
    refine wpAnyH_ready (rs := [17]) (by kernel_rfl) (by simp) ?_
    refine AllReadyH.cons rfl (fun K hK => ?_) AllReadyH.nil
    refine step_app tyD encD_ok hoA (mDef s1.data pre.length x) hcA rfl rfl (by rfl) (by rfl) hsA (by decide) hlA ?_
    intro g cap w6 o6 hg6
    have q6 := qA.keep hg6 (hoA.neO (by decide) qA)
    have e6 := eA.grown hg6 hbA
    have z6 := q6.c0
    have fz6 := q6.fz 0
    refine hK.out _ _ ?_ (fun _ => ?_)
    ·exact ⟨Ext.cell e6 T1.out, Ext.cell e6 G0.out, Ext.cell e6 G1.out, Ext.cell e6 G2.out⟩
    clear hK K
    simp only [Act.put, List.setIfInBounds_toArray, List.set_cons_zero, List.set_cons_succ]
    refine wpAnyH_ready (rs := [18]) (by kernel_rfl) (by simp) ?_
    refine AllReadyH.cons rfl (fun K hK => ?_) AllReadyH.nil
    go_simp
    refine hK.out _ _ ?_ (fun _ => ?_)
    ·exact ⟨Ext.cell e6 T1.out, Ext.cell e6 G0.out, Ext.cell e6 G1.out, Ext.cell e6 G2.out⟩
    clear hK K
    refine wpAnyH_ready (rs := [19]) (by kernel_rfl) (by simp) ?_
    refine AllReadyH.cons rfl (fun K hK => ?_) AllReadyH.nil
    go_simp
    refine hK.out _ _ ?_ (fun _ => ?_)
    ·exact ⟨Ext.cell (e6.setCell (a := ⟨Bo, 0, none⟩) _ hBo5) T1.out, Ext.cell (e6.setCell (a := ⟨Bo, 0, none⟩) _ hBo5) G0.out, Ext.cell (e6.setCell (a := ⟨Bo, 0, none⟩) _ hBo5) G1.out, Ext.cell (e6.setCell (a := ⟨Bo, 0, none⟩) _ hBo5) G2.out⟩
    clear hK K
    refine wpAnyH_done (by kernel_rfl) ?_ _
    have hs6 := hg6.size
    have o7 := o6.kept (grown_setCell w6 Bo 0 (.slice (some ⟨g, 0, none⟩) (l.length + 1) cap)) (.inr (fun e => (o6.neO (by decide) q6) e.symm))
    have q7 := q6.s0 (.slice (some ⟨g, 0, none⟩) (l.length + 1) cap)
    go_wp2
    go_roundw
    case rel => exact ⟨pre ++ [x], suf, l ++ [mDef s1.data pre.length x], _, by simp [HL.out], by simp, by rw [HML.out, mDefs, mDefs, List.mapIdx_concat], by simp [HMN.out], q7, o7, e6.setCell (a := ⟨Bo, 0, none⟩) _ hBo5, by simp at hs6 hsA ⊢; omega⟩
    case measure => simp [RowKit.intOf]; omega
   ·skip
    go_simp
    refine hK.out _ _ ?_ (fun _ => ?_)
    ·exact ⟨Ext.cell eA T1.out, Ext.cell eA G0.out, Ext.cell eA G1.out, Ext.cell eA G2.out⟩
    clear hK K
    refine wpAnyH_ready (rs := [1]) (by kernel_rfl) (by simp) ?_
    refine AllReadyH.cons rfl (fun K hK => ?_) AllReadyH.nil
    go_simp
    refine hK.out _ _ ?_ (fun _ => ?_)
    ·exact ⟨Ext.cell eA T1.out, Ext.cell eA G0.out, Ext.cell eA G1.out, Ext.cell eA G2.out⟩
    clear hK K
    refine wpAnyH_ready (rs := [17]) (by kernel_rfl) (by simp) ?_
    refine AllReadyH.cons rfl (fun K hK => ?_) AllReadyH.nil
    refine step_app tyD encD_ok hoA (mDef s1.data pre.length x) hcA rfl rfl (by rfl) (by rfl) hsA (by decide) hlA ?_
    intro g cap w6 o6 hg6
    have q6 := qA.keep hg6 (hoA.neO (by decide) qA)
    have e6 := eA.grown hg6 hbA
    have z6 := q6.c0
    have fz6 := q6.fz 0
    refine hK.out _ _ ?_ (fun _ => ?_)
    ·exact ⟨Ext.cell e6 T1.out, Ext.cell e6 G0.out, Ext.cell e6 G1.out, Ext.cell e6 G2.out⟩
    clear hK K
    simp only [Act.put, List.setIfInBounds_toArray, List.set_cons_zero, List.set_cons_succ]
    refine wpAnyH_ready (rs := [18]) (by kernel_rfl) (by simp) ?_
    refine AllReadyH.cons rfl (fun K hK => ?_) AllReadyH.nil
    go_simp
    refine hK.out _ _ ?_ (fun _ => ?_)
    ·exact ⟨Ext.cell e6 T1.out, Ext.cell e6 G0.out, Ext.cell e6 G1.out, Ext.cell e6 G2.out⟩
    clear hK K
    refine wpAnyH_ready (rs := [19]) (by kernel_rfl) (by simp) ?_
    refine AllReadyH.cons rfl (fun K hK => ?_) AllReadyH.nil
    go_simp
    refine hK.out _ _ ?_ (fun _ => ?_)
    ·exact ⟨Ext.cell (e6.setCell (a := ⟨Bo, 0, none⟩) _ hBo5) T1.out, Ext.cell (e6.setCell (a := ⟨Bo, 0, none⟩) _ hBo5) G0.out, Ext.cell (e6.setCell (a := ⟨Bo, 0, none⟩) _ hBo5) G1.out, Ext.cell (e6.setCell (a := ⟨Bo, 0, none⟩) _ hBo5) G2.out⟩
    clear hK K
    refine wpAnyH_done (by kernel_rfl) ?_ _
    have hs6 := hg6.size
    have o7 := o6.kept (grown_setCell w6 Bo 0 (.slice (some ⟨g, 0, none⟩) (l.length + 1) cap)) (.inr (fun e => (o6.neO (by decide) q6) e.symm))
    have q7 := q6.s0 (.slice (some ⟨g, 0, none⟩) (l.length + 1) cap)
    go_wp2
    go_roundw
    case rel => exact ⟨pre ++ [x], suf, l ++ [mDef s1.data pre.length x], _, by simp [HL.out], by simp, by rw [HML.out, mDefs, mDefs, List.mapIdx_concat], by simp [HMN.out], q7, o7, e6.setCell (a := ⟨Bo, 0, none⟩) _ hBo5, by simp at hs6 hsA ⊢; omega⟩
    case measure => simp [RowKit.intOf]; omega
  | nil =>
   obtain rfl : parL s4.data = pre := by simpa using hl'
   clear hl'
   have hlt : ¬ (parL s4.data).length < n := by have := HN.out; omega
   go_wp2
   obtain ⟨W6, rfl⟩ : ∃ W6 : World, W6 = wr := ⟨_, rfl⟩
   clear k0 k1 k2 f1
   go_loopw [109] (fun i wr => ∃ (k : Nat) (l2 : List Rel) (u : Value), i = .int .i64 (k : Int) ∧ k ≤ m ∧ l2 = mRels s3.data k ∧ l2.length = k ∧ RowO wr Bo (.slice A7 l.length c7) (.slice A0 s0.data.length c0) u ∧ OwnR wr W6.heap.size u l2 ∧ OwnD wr W5.heap.size (.slice A7 l.length c7) l ∧ Ext w4 wr ∧ W6.heap.size ≤ wr.heap.size) (fun i _ => m - (RowKit.intOf i).toNat)
   case atStart => exact ⟨0, [], _, rfl, by omega, rfl, rfl, q, Own.nil _ _ _ _ _, ho, he, Nat.le_refl _⟩
   case round =>
    clear q ho he
    obtain ⟨k, l2, u, rfl, hkm, hml, hmn, q, ho, hD, he, hsz2⟩ := hrel
    have HML2 := hx hml
    have HMN2 := hx hmn
    clear hml hmn
    obtain ⟨A8, c8, rfl⟩ := ho.slice
    by_cases hlt : k < m
    ·obtain ⟨bd, od, rfl, ⟨⟨gd, t2, rg⟩, hbd⟩⟩ := rr'.get (i := k) (x := numRow s3.data 2 k) (by
      rw [HB3.out, List.getElem?_map, List.getElem?_range (by have := HM.out; rw [HB3.out] at this; simp at this; omega)]; rfl)
     rw [numRow_length] at t2
     rw [Nat.mul_one] at t2
     replace t2 := he.cell t2
     rw [numRow2] at rg
     have g0 := rg.cell (i := 0) rfl
     have g1 := rg.cell (i := 1) rfl
     clear rg
     have G0 := hx g0
     have G1 := hx g1
     replace g0 := he.cell g0
     replace g1 := he.cell g1
     have q0 := q.c2
     have fq := q.fz
     go_wp2_with fail
     obtain ⟨C, hC⟩ : ∃ C : Obj, C = (.cells #[.int .i64 (numOf s3.data (8 * k) 4), .int .i64 (numOf s3.data (8 * k + 4) 4)] 78) := ⟨_, rfl⟩
     have hoA : OwnR (wr.alloc C).drew W6.heap.size (.slice A8 l2.length c8) l2 := ho.ext ((Ext.new wr C).drew)
     have hDA : OwnD (wr.alloc C).drew W5.heap.size (.slice A7 l.length c7) l := hD.ext ((Ext.new wr C).drew)
     have qA : RowO (wr.alloc C).drew Bo (.slice A7 l.length c7) (.slice A0 s0.data.length c0) (.slice A8 l2.length c8) := q.ext ((Ext.new wr C).drew)
     have hcA : ∀ (j : Nat) (u : Value), (mRel s3.data k).enc[j]? = some u → (wr.alloc C).drew.cell? ⟨wr.heap.size, j, none⟩ = some u := by rw [hC]; exact alloc_at _ rfl
     have eA : Ext w4 (wr.alloc C).drew := (he.alloc C).drew
     have hsA : W6.heap.size ≤ (wr.alloc C).drew.heap.size := Nat.le_trans hsz2 (Ext.new wr C).size
     have hbA : ∀ k, (Value.slice A8 l2.length c8).ownBlock = some k → w4.heap.size ≤ k := fun k hk => Nat.le_trans (Nat.le_trans (Nat.le_of_lt (by rw [← HBo.out]; exact hsz5)) hsz) (ho.base_le k hk)
     have qA0 := qA.c2
     subst hC
     have hln : l2.length ≤ 1000000 := by have := HMN2.out; omega
     have i1 : (0 : Int) ≤ (k : Int) := by omega
     have i2 : (k : Int) < (m : Int) := by omega
     have hBo5 : w4.heap.size ≤ Bo := by rw [HBo.out]; exact Nat.le_refl _
     have hlA : (l2.length + 1) * 16 ≤ 140737488355328 := by omega
     clear ho hsz2 hD
     refine wp_region_held (S := (fun w' : World => w'.cell? ⟨gd, 0, none⟩ = some (.int .i64 (numOf s3.data (8 * k) 4)) ∧ w'.cell? ⟨gd, 1, none⟩ = some (.int .i64 (numOf s3.data (8 * k + 4) 4)))) (by kernel_rfl) ?_
     change wpAnyH _ _ _ _ _ 13 _ _ wr.drew
     have hS0 : (fun w' : World => w'.cell? ⟨gd, 0, none⟩ = some (.int .i64 (numOf s3.data (8 * k) 4)) ∧ w'.cell? ⟨gd, 1, none⟩ = some (.int .i64 (numOf s3.data (8 * k + 4) 4))) wr.drew := ⟨g0, g1⟩
     refine wpAnyH_take (i := 0) (v := .pointer (some ⟨Bo, 2, none⟩)) rfl (by kernel_rfl) (by kernel_rfl) (by kernel_rfl) (fun _ _ _ h => h) (.inl ⟨by rfl, ?_⟩) hS0 ?_
     ·intro W' hW'; (try dsimp only at hW'); go_simp
     simp only [Act.put, List.setIfInBounds_toArray, List.set_cons_zero, List.set_cons_succ]
     refine wpAnyH_take (i := 2) (v := .slice (some ⟨gd, 0, none⟩) 2 2) rfl (by kernel_rfl) (by kernel_rfl) (by kernel_rfl) (fun _ _ _ h => h) (.inl ⟨by rfl, ?_⟩) hS0 ?_
     ·intro W' hW'; (try dsimp only at hW'); go_simp
     simp only [Act.put, List.setIfInBounds_toArray, List.set_cons_zero, List.set_cons_succ]
     refine wpAnyH_take (i := 3) (v := .pointer (some ⟨gd, 0, none⟩)) rfl (by kernel_rfl) (by kernel_rfl) (by kernel_rfl) (fun _ _ _ h => h) (.inl ⟨by rfl, ?_⟩) hS0 ?_
     ·intro W' hW'; (try dsimp only at hW'); go_simp
     simp only [Act.put, List.setIfInBounds_toArray, List.set_cons_zero, List.set_cons_succ]
     refine wpAnyH_take (i := 4) (v := .int .i64 (numOf s3.data (8 * k) 4)) rfl (by kernel_rfl) (by kernel_rfl) (by kernel_rfl) (fun _ _ _ h => h) (.inl ⟨by rfl, ?_⟩) hS0 ?_
     ·intro W' hW'; (try dsimp only at hW'); go_simp
     simp only [Act.put, List.setIfInBounds_toArray, List.set_cons_zero, List.set_cons_succ]
     refine wpAnyH_take (i := 5) (v := .slice (some ⟨gd, 0, none⟩) 2 2) rfl (by kernel_rfl) (by kernel_rfl) (by kernel_rfl) (fun _ _ _ h => h) (.inl ⟨by rfl, ?_⟩) hS0 ?_
     ·intro W' hW'; (try dsimp only at hW'); go_simp
     simp only [Act.put, List.setIfInBounds_toArray, List.set_cons_zero, List.set_cons_succ]
     refine wpAnyH_take (i := 6) (v := .pointer (some ⟨gd, 1, none⟩)) rfl (by kernel_rfl) (by kernel_rfl) (by kernel_rfl) (fun _ _ _ h => h) (.inl ⟨by rfl, ?_⟩) hS0 ?_
     ·intro W' hW'; (try dsimp only at hW'); go_simp
     simp only [Act.put, List.setIfInBounds_toArray, List.set_cons_zero, List.set_cons_succ]
     refine wpAnyH_take (i := 7) (v := .int .i64 (numOf s3.data (8 * k + 4) 4)) rfl (by kernel_rfl) (by kernel_rfl) (by kernel_rfl) (fun _ _ _ h => h) (.inl ⟨by rfl, ?_⟩) hS0 ?_
     ·intro W' hW'; (try dsimp only at hW'); go_simp
     simp only [Act.put, List.setIfInBounds_toArray, List.set_cons_zero, List.set_cons_succ]
     refine wpAnyH_take (i := 8) (v := .agg #[.int .i64 (numOf s3.data (8 * k) 4), .int .i64 (numOf s3.data (8 * k + 4) 4)]) rfl (by kernel_rfl) (by kernel_rfl) (by kernel_rfl) (fun _ _ _ h => h) (.inl ⟨by rfl, ?_⟩) hS0 ?_
     ·intro W' hW'; (try dsimp only at hW'); go_simp
     simp only [Act.put, List.setIfInBounds_toArray, List.set_cons_zero, List.set_cons_succ]
     refine wpAnyH_ready (rs := [1, 9]) (by kernel_rfl) (by simp) ?_
     refine AllReadyH.cons rfl (fun K hK => ?_) (AllReadyH.cons rfl (fun K hK => ?_) AllReadyH.nil)
     ·skip
      go_simp
      refine hK.out _ _ ?_ (fun _ => ?_)
      ·exact hS0
      clear hK K
      refine wpAnyH_ready (rs := [9]) (by kernel_rfl) (by simp) ?_
      refine AllReadyH.cons rfl (fun K hK => ?_) AllReadyH.nil
      go_simp
      refine hK.out _ _ ?_ (fun _ => ?_)
      ·exact ⟨Ext.cell eA G0.out, Ext.cell eA G1.out⟩
      clear hK K
      refine wpAnyH_ready (rs := [10]) (by kernel_rfl) (by simp) ?_
      refine AllReadyH.cons rfl (fun K hK => ?_) AllReadyH.nil
      refine step_app tyR encR_ok hoA (mRel s3.data k) hcA rfl rfl (by rfl) (by rfl) hsA (by decide) hlA ?_
      intro g cap w6 o6 hg6
      have q6 := qA.keep hg6 (hoA.neO (by decide) qA)
      have e6 := eA.grown hg6 hbA
      have z6 := q6.c2
      have fz6 := q6.fz 2
      have hD6 := hDA.kept hg6 (hDA.type_ne hoA (by decide))
      refine hK.out _ _ ?_ (fun _ => ?_)
      ·exact ⟨Ext.cell e6 G0.out, Ext.cell e6 G1.out⟩
      clear hK K
      simp only [Act.put, List.setIfInBounds_toArray, List.set_cons_zero, List.set_cons_succ]
      refine wpAnyH_ready (rs := [11]) (by kernel_rfl) (by simp) ?_
      refine AllReadyH.cons rfl (fun K hK => ?_) AllReadyH.nil
      go_simp
      refine hK.out _ _ ?_ (fun _ => ?_)
      ·exact ⟨Ext.cell e6 G0.out, Ext.cell e6 G1.out⟩
      clear hK K
      refine wpAnyH_ready (rs := [12]) (by kernel_rfl) (by simp) ?_
      refine AllReadyH.cons rfl (fun K hK => ?_) AllReadyH.nil
      go_simp
      refine hK.out _ _ ?_ (fun _ => ?_)
      ·exact ⟨Ext.cell (e6.setCell (a := ⟨Bo, 2, none⟩) _ hBo5) G0.out, Ext.cell (e6.setCell (a := ⟨Bo, 2, none⟩) _ hBo5) G1.out⟩
      clear hK K
      refine wpAnyH_done (by kernel_rfl) ?_ _
      have hs6 := hg6.size
      have o7 := o6.kept (grown_setCell w6 Bo 2 (.slice (some ⟨g, 0, none⟩) (l2.length + 1) cap)) (.inr (fun e => (o6.neO (by decide) q6) e.symm))
      have hD7 := hD6.kept (grown_setCell w6 Bo 2 (.slice (some ⟨g, 0, none⟩) (l2.length + 1) cap)) (.inr (fun e => (hD6.neO (by decide) q6) e.symm))
      have q7 := q6.s2 (.slice (some ⟨g, 0, none⟩) (l2.length + 1) cap)
      go_wp2
      go_roundw
      case rel => exact ⟨k + 1, l2 ++ [mRel s3.data k], _, by simp, by omega, by rw [HML2.out, mRels, mRels, List.range_succ]; simp [HMN2.out], by simp [HMN2.out], q7, o7, hD7, e6.setCell (a := ⟨Bo, 2, none⟩) _ hBo5, by simp at hs6 hsA ⊢; omega⟩
      case measure => simp [RowKit.intOf]; omega
     ·skip
      go_simp
      refine hK.out _ _ ?_ (fun _ => ?_)
      ·exact ⟨Ext.cell eA G0.out, Ext.cell eA G1.out⟩
      clear hK K
      refine wpAnyH_ready (rs := [1]) (by kernel_rfl) (by simp) ?_
      refine AllReadyH.cons rfl (fun K hK => ?_) AllReadyH.nil
      go_simp
      refine hK.out _ _ ?_ (fun _ => ?_)
      ·exact ⟨Ext.cell eA G0.out, Ext.cell eA G1.out⟩
      clear hK K
      refine wpAnyH_ready (rs := [10]) (by kernel_rfl) (by simp) ?_
      refine AllReadyH.cons rfl (fun K hK => ?_) AllReadyH.nil
      refine step_app tyR encR_ok hoA (mRel s3.data k) hcA rfl rfl (by rfl) (by rfl) hsA (by decide) hlA ?_
      intro g cap w6 o6 hg6
      have q6 := qA.keep hg6 (hoA.neO (by decide) qA)
      have e6 := eA.grown hg6 hbA
      have z6 := q6.c2
      have fz6 := q6.fz 2
      have hD6 := hDA.kept hg6 (hDA.type_ne hoA (by decide))
      refine hK.out _ _ ?_ (fun _ => ?_)
      ·exact ⟨Ext.cell e6 G0.out, Ext.cell e6 G1.out⟩
      clear hK K
      simp only [Act.put, List.setIfInBounds_toArray, List.set_cons_zero, List.set_cons_succ]
      refine wpAnyH_ready (rs := [11]) (by kernel_rfl) (by simp) ?_
      refine AllReadyH.cons rfl (fun K hK => ?_) AllReadyH.nil
      go_simp
      refine hK.out _ _ ?_ (fun _ => ?_)
      ·exact ⟨Ext.cell e6 G0.out, Ext.cell e6 G1.out⟩
      clear hK K
      refine wpAnyH_ready (rs := [12]) (by kernel_rfl) (by simp) ?_
      refine AllReadyH.cons rfl (fun K hK => ?_) AllReadyH.nil
      go_simp
      refine hK.out _ _ ?_ (fun _ => ?_)
      ·exact ⟨Ext.cell (e6.setCell (a := ⟨Bo, 2, none⟩) _ hBo5) G0.out, Ext.cell (e6.setCell (a := ⟨Bo, 2, none⟩) _ hBo5) G1.out⟩
      clear hK K
      refine wpAnyH_done (by kernel_rfl) ?_ _
      have hs6 := hg6.size
      have o7 := o6.kept (grown_setCell w6 Bo 2 (.slice (some ⟨g, 0, none⟩) (l2.length + 1) cap)) (.inr (fun e => (o6.neO (by decide) q6) e.symm))
      have hD7 := hD6.kept (grown_setCell w6 Bo 2 (.slice (some ⟨g, 0, none⟩) (l2.length + 1) cap)) (.inr (fun e => (hD6.neO (by decide) q6) e.symm))
      have q7 := q6.s2 (.slice (some ⟨g, 0, none⟩) (l2.length + 1) cap)
      go_wp2
      go_roundw
      case rel => exact ⟨k + 1, l2 ++ [mRel s3.data k], _, by simp, by omega, by rw [HML2.out, mRels, mRels, List.range_succ]; simp [HMN2.out], by simp [HMN2.out], q7, o7, hD7, e6.setCell (a := ⟨Bo, 2, none⟩) _ hBo5, by simp at hs6 hsA ⊢; omega⟩
      case measure => simp [RowKit.intOf]; omega
    ·obtain rfl : k = m := by omega
     have hlt2 : ¬ k < k := by omega
     have HM8 := hx (show k = s3.data.length / 8 by have := HM.out; rw [HB3.out] at this; simpa using this)
     have hln1 : l.length ≤ 100000 := by have := HMN.out; have := HN.out; omega
     have hln2 : l2.length ≤ 1000000 := by have := HMN2.out; omega
     have hOb : IsOb wr (.agg #[.slice A7 l.length c7, .slice A0 s0.data.length c0, .slice A8 l2.length c8]) (obOf [s0, s1, s2, s3, s4]) := by
      refine ⟨_, _, _, rfl, ?_, IsB.ext i0' he, ?_⟩
      ·have h1 : l = (obOf [s0, s1, s2, s3, s4]).maps := HML.out
       rw [← h1]
       exact hD.read (by rw [HML.out]; exact mDefs_ok hB1.out (Sl.all rt fun _ _ _ k => k.2)) (by omega)
      ·have h1 : l2 = (obOf [s0, s1, s2, s3, s4]).rels := by rw [HML2.out, HM8.out]; rfl
       rw [← h1]
       exact ho.read (by rw [HML2.out]; exact mRels_ok hB3.out _) (by omega)
     have hGw := hG.ext (ew4.trans he)
     have hNw := hN.ext (ew4.trans he)
     have hmz : (obOf [s0, s1, s2, s3, s4]).maps = l := HML.out.symm
     have hrz : (obOf [s0, s1, s2, s3, s4]).rels = l2 := by rw [HML2.out, HM8.out]; rfl
     have hP := object_Pack_any _ (obOf [s0, s1, s2, s3, s4]) wr hOb (by rw [hmz]; exact hln1) (by rw [hrz]; exact hln2) hGw hNw
     clear hmz hrz
     have hbb := IsB.ext hv' (ew4.trans he)
     have z0 := q.c0
     have z1 := q.c1
     have z2 := q.c2
     have r5 := r4.ext he
     have hparts := hx (show paOk b ↔ (obE (obOf [s0, s1, s2, s3, s4]) = 0 ∧ packOf (obOf [s0, s1, s2, s3, s4]) = b) by
      rw [hpa.out]
      exact ⟨fun h => ⟨h.2.2.2.1, h.2.2.2.2⟩, fun h => ⟨HPB.out, by have := HLN.out; have := H16.out; have := HN.out; omega, H8.out, h⟩⟩)
     have hpOut := hx (show pkOut (obOf [s0, s1, s2, s3, s4]) = if obE (obOf [s0, s1, s2, s3, s4]) = 0 then packOf (obOf [s0, s1, s2, s3, s4]) else [] from rfl)
     have hpaO := hx (show paOk b → paOut b = obOf [s0, s1, s2, s3, s4] from fun h => by unfold paOut; rw [if_pos h, HS.out])
     clear hGw hNw hD ho q i0' rt' rd' rr' rt rd rr hv hv' r4 hG hN hpa
     generalize hO : obOf [s0, s1, s2, s3, s4] = O at *
     clear hO
     by_cases hE0 : obE O = 0
     case neg =>
      have hE := hx (show paErr b = 19 ∧ paOut b = obNil by
       have : ¬ paOk b := fun h => hE0 (hparts.out.1 h).1
       unfold paErr paOut; rw [if_neg this, if_neg this]; exact ⟨rfl, rfl⟩)
      have hne : (obE O != 0) = true := by simpa using hE0
      generalize obE O = EO at *
      go_wp2_with (first | (go_at_call 9; refine hP.mono ?_; rintro e w7 ⟨vp, rfl, ip, e7⟩; have r7 := r5.ext e7; have k0 := r7.c0; have k1 := r7.c1; have k2 := r7.c2; have f1 := r7.fz))
      refine bodyPost_ret (results_row_tmp rfl _ _ w.heap.size 31 _ _ _ rfl (((r7.s0 _).s1 _).s2 _) Tryz.underlying31 rfl (by kernel_rfl)) rfl ?_
      exact ⟨_, by rw [hE.out.1]; rfl, by rw [hE.out.2]; exact isOb_nil _, ext_o3 ((ew4.trans he).trans e7) (Nat.le_refl _) _ _ _⟩
     have hpk : pkOut O = packOf O := by rw [hpOut.out, if_pos hE0]
     rw [hpk, hE0] at hP
     obtain ⟨L, hL⟩ : ∃ L, L = packOf O := ⟨_, rfl⟩
     rw [← hL] at hP
     have HL := hx hL
     have HE0 := hx hE0
     clear hpk hpOut hL hE0
     by_cases hq : L = b
     ·have hE := hx (show paErr b = 0 ∧ paOut b = O by
       have : paOk b := hparts.out.2 ⟨HE0.out, by rw [← HL.out]; exact hq⟩
       refine ⟨by unfold paErr; rw [if_pos this], hpaO.out this⟩)
      have hdq : decide (L = b) = true := by simpa using hq
      have HQ := hx hq
      clear hq
      obtain ⟨D, hD⟩ : ∃ D, D = decide (L = b) := ⟨_, rfl⟩
      have hDt : D = true := by rw [hD]; exact hdq
      have hEq := hx (fun (va vb : Value) (W : World) (ha : IsB W va L) (hb : IsB W vb b) => by have := equalB_any va vb L b W ha hb; rw [hdq] at this; exact this)
      clear hD hDt hdq D
      go_wp2_with (first | (go_at_call 9; refine hP.mono ?_; rintro e w7 ⟨vp, rfl, ip, e7⟩; obtain ⟨A9, c9, rfl, -, -, ip'⟩ := ip.form; have y0 := e7.cell z0; have y1 := e7.cell z1; have y2 := e7.cell z2) | (go_at_call 36; refine (hEq.out _ _ _ ip' (IsB.ext hbb e7)).mono ?_; rintro e w8 ⟨rfl, e8⟩; have r7 := r5.ext (e7.trans e8); have k0 := r7.c0; have k1 := r7.c1; have k2 := r7.c2; have f1 := r7.fz; have x0 := e8.cell y0; have x1 := e8.cell y1; have x2 := e8.cell y2))
      refine bodyPost_ret (results_row_tmp rfl _ _ w.heap.size 31 _ _ _ rfl (((r7.s0 _).s1 _).s2 _) Tryz.underlying31 rfl (by kernel_rfl)) rfl ?_
      have hB0 : w.heap.size < wr.heap.size := Nat.lt_of_lt_of_le hB (E4.trans he).size
      refine ⟨_, by rw [hE.out.1]; rfl, ?_, ext_o3 (((ew4.trans he).trans e7).trans e8) (Nat.le_refl _) _ _ _⟩
      rw [hE.out.2]
      exact isOb_set3 r7 (hOb.ext (e7.trans e8)) _ _ _
     ·have hE := hx (show paErr b = 19 ∧ paOut b = obNil by
       have : ¬ paOk b := fun h => hq (by rw [HL.out]; exact (hparts.out.1 h).2)
       unfold paErr paOut; rw [if_neg this, if_neg this]; exact ⟨rfl, rfl⟩)
      have hdq : decide (L = b) = false := by simpa using hq
      clear hq
      have hEq := hx (fun (va vb : Value) (W : World) (ha : IsB W va L) (hb : IsB W vb b) => by have := equalB_any va vb L b W ha hb; rw [hdq] at this; exact this)
      clear hdq
      go_wp2_with (first | (go_at_call 9; refine hP.mono ?_; rintro e w7 ⟨vp, rfl, ip, e7⟩; obtain ⟨A9, c9, rfl, -, -, ip'⟩ := ip.form; have y0 := e7.cell z0; have y1 := e7.cell z1; have y2 := e7.cell z2) | (go_at_call 36; refine (hEq.out _ _ _ ip' (IsB.ext hbb e7)).mono ?_; rintro e w8 ⟨rfl, e8⟩; have r7 := r5.ext (e7.trans e8); have k0 := r7.c0; have k1 := r7.c1; have k2 := r7.c2; have f1 := r7.fz; have x0 := e8.cell y0; have x1 := e8.cell y1; have x2 := e8.cell y2))
      refine bodyPost_ret (results_row_tmp rfl _ _ w.heap.size 31 _ _ _ rfl (((r7.s0 _).s1 _).s2 _) Tryz.underlying31 rfl (by kernel_rfl)) rfl ?_
      exact ⟨_, by rw [hE.out.1]; rfl, by rw [hE.out.2]; exact isOb_nil _, ext_o3 (((ew4.trans he).trans e7).trans e8) (Nat.le_refl _) _ _ _⟩
end Go.Proofs.YtmofdnlefjfcfaaGreatDoor
