/- The layer strtab: Parse. -/
import Derived.Test.YtmofdnlefjfcfaaGreatDoorJRefChkE
import Derived.Deep.RegionHeld3
set_option linter.unusedVariables false
set_option linter.unusedSimpArgs false
namespace Go.Proofs.YtmofdnlefjfcfaaGreatDoor
open Go.RowKit Go.Lib Go.Shelf Go.Proofs
attribute [local go_sem] Oper.semAt_some

theorem texts_in (F : Fence) (n : Nat) (hF : F.fn 71) (hro : F.round = none) (A : Option Addr) (m c : Nat) (w : World) :
  CallsIn F n Tryz.prog 71 #[.slice A m c] w fun e w' => e = .returned (.func (.func 101) #[] #[.pointer (some ⟨w.heap.size, 0, none⟩)]) ∧ w' = w.alloc (.cells #[.slice A m c] 28) := by
 refine callsIn_of_wp Tryz.func71 rfl hF ?_ hro
 simp only [Tryz.ntmps71, List.size_toArray, List.length_cons, List.length_nil, Nat.reduceAdd, Nat.reduceSub, Array.replicate_succ, Array.replicate_zero, List.push_toArray, List.append_toArray, List.nil_append, List.cons_append]
 gi_wp2
 go_ret
 exact ⟨rfl, rfl⟩

theorem parT_items (l : List Int) : parT (0 :: l) = if (items 1 (0 :: l)).all (fun x => !x.2.isEmpty) then some ((items 1 (0 :: l)).map fun x => strOfNums x.2) else none := by
 unfold parT items
 simp only [if_pos, List.drop_succ_cons, List.drop_zero]
 rw [splitT, itemsA_split l 1 []]
 split <;> simp
theorem run_loadVar_one {P : Program} {W : World} {ty : TypeId} {d : TypeDesc} {a : Addr} {v : Value} (hu : P.underlying ty = some d) (hd : (match d with | .struct _ | .array _ _ => true | _ => false) = false) (hc : W.cell? a = some v) : (loadVar ty a).run P W = .ok v W := by
 have hl : (load a).run P W = .ok v W := by simp [hc]
 cases d <;> simp_all [loadVar, isAgg, run_underlying hu]
theorem results_ccc {P : Program} {fn : Func} {p p' p'' : Tmp} {ty ty' ty'' : TypeId} (h : fn.results = #[.cell p ty, .cell p' ty', .cell p'' ty'']) {tmps : Array Value} {w : World} {a a' a'' : Addr} {v v' v'' : Value}
  (hp : tmps.getD p undef = .pointer (some a)) (hp' : tmps.getD p' undef = .pointer (some a')) (hp'' : tmps.getD p'' undef = .pointer (some a''))
  (hl : (loadVar ty a).run P w = .ok v w) (hl' : (loadVar ty' a').run P w = .ok v' w) (hl'' : (loadVar ty'' a'').run P w = .ok v'' w) : (results fn tmps).run P w = .ok (.tuple #[v, v', v'']) w := by
 have h1 : tmps[p]?.getD undef = .pointer (some a) := by simpa using hp
 have h2 : tmps[p']?.getD undef = .pointer (some a') := by simpa using hp'
 have h3 : tmps[p'']?.getD undef = .pointer (some a'') := by simpa using hp''
 simp [results, h, h1, h2, h3, asAddr, hl, hl', hl'']
theorem not_cells {W : World} {row : Option Nat} {B r : Nat} {cs : Array Value} {t : TypeId} {fr : Nat × Nat} (h : W.heap[r]? = some (.cells cs t fr)) (hr : ∀ r, row = some r → B ≤ r ∧ ∃ o : Obj, W.heap[r]? = some o ∧ o.isCells = false) : some r ≠ row := by
 intro e
 obtain ⟨_, o, ho, hc⟩ := hr r e.symm
 rw [h] at ho; cases ho; cases hc
theorem box_keptRow {W W' : World} {row : Option Nat} {B b : Nat} {t : TypeId} {v : Value} (h : Boxed W b t v) (hg : W.grownBy W' row) (hr : ∀ r, row = some r → B ≤ r ∧ ∃ o : Obj, W.heap[r]? = some o ∧ o.isCells = false) : Boxed W' b t v :=
 h.kept hg (not_cells h hr)
theorem KpT.putObj {w W : World} {n₀ B l : Nat} {o : Obj} (o' : Obj) (hn : n₀ ≤ w.heap.size) (hB : B < w.heap.size) (hl : w.heap.size ≤ l) (ho : W.heap[l]? = some o) : KpT n₀ B W (W.putObj l o') := by
 have hg := grownBy_putObj' W l o'
 have hlt := (Array.getElem?_eq_some_iff.1 ho).1
 exact ⟨(Below.refl n₀ W).grown hg (by omega) (fun k e => by cases e; omega), hg.block B (by omega) (fun e => by injection e with e; omega)⟩
theorem Own.keptRow {α : Type} {e : TypeId} {sz : Nat} {enc : α → List Value} {W W' : World} {base : Nat} {v : Value} {l : List α} {row : Option Nat} {B : Nat} (h : Own e sz enc W base v l) (hg : W.grownBy W' row)
  (hr : ∀ r, row = some r → B ≤ r ∧ ∃ o : Obj, W.heap[r]? = some o ∧ o.isCells = false) : Own e sz enc W' base v l := by
 refine h.kept hg ?_
 rcases h.2 with ⟨rfl, _⟩ | ⟨g, cap, cur, rfl, _, hh, _⟩
 ·exact .inl rfl
 ·exact .inr (not_cells hh hr)
/-- Parse between two rounds. -/
structure ParI (w : World) (B : Nat) (bv : Value) (pre : List (Nat × List Int)) (W : World) : Prop where
 ne : ∀ x ∈ pre, x.2 ≠ []
 b1 : Boxed W B 51 (.slice none 0 0)
 b2 : Boxed W (B + 1) 66 (.slice none 0 0)
 b3 : Boxed W (B + 1 + 1) 34 (.int .i64 0)
 b4 : ∃ v, Boxed W (B + 1 + 1 + 1) 51 v ∧ OwnS W B v (pre.map fun x => strOfNums x.2)
 b5 : ∃ v, Boxed W (B + 1 + 1 + 1 + 1) 66 v ∧ OwnI W B v (pre.map fun x => ((x.1 : Nat) : Int))
 b6 : Boxed W (B + 1 + 1 + 1 + 1 + 1) 28 bv
 ext : Ext w W
theorem ParI.own {w : World} {B : Nat} {bv : Value} {B0 : Nat} (hB : w.heap.size ≤ B0) : OwnFrom B0 (ParI w B bv) := by
 intro s W W' row h hg hr
 obtain ⟨v, h4, h4'⟩ := h.b4
 obtain ⟨u, h5, h5'⟩ := h.b5
 exact ⟨h.ne, box_keptRow h.b1 hg hr, box_keptRow h.b2 hg hr, box_keptRow h.b3 hg hr, ⟨v, box_keptRow h4 hg hr, h4'.keptRow hg hr⟩, ⟨u, box_keptRow h5 hg hr, h5'.keptRow hg hr⟩, box_keptRow h.b6 hg hr, h.ext.grown hg (fun k e => Nat.le_trans hB (hr k e).1)⟩
structure ParX (w : World) (B : Nat) (c : Code) (pre : List (Nat × List Int)) (W : World) : Prop where
 c : c = .ret
 bad : ∃ x ∈ pre, x.2 = []
 b1 : Boxed W B 51 (.slice none 0 0)
 b2 : Boxed W (B + 1) 66 (.slice none 0 0)
 b3 : Boxed W (B + 1 + 1) 34 (.int .i64 19)
 ext : Ext w W
theorem ParX.own {w : World} {B : Nat} {c : Code} {B0 : Nat} (hB : w.heap.size ≤ B0) : OwnFrom B0 (ParX w B c) := by
 intro s W W' row h hg hr
 exact ⟨h.c, h.bad, box_keptRow h.b1 hg hr, box_keptRow h.b2 hg hr, box_keptRow h.b3 hg hr, h.ext.grown hg (fun k e => Nat.le_trans hB (hr k e).1)⟩
theorem three_set {W : World} {B D : Nat} {u1 u2 u3 : Value} (v1 v2 v3 : Value) (b1 : Boxed W B 51 u1) (b2 : Boxed W (B + 1) 66 u2) (b3 : Boxed W (B + 1 + 1) 34 u3) (hK : W.heap[D]? = some (.deferred (some []))) :
  ((((W.setCell ⟨B, 0, none⟩ v1).setCell ⟨B + 1, 0, none⟩ v2).setCell ⟨B + 1 + 1, 0, none⟩ v3).drew).heap[D]? = some (.deferred (some [])) ∧
  Boxed (((((W.setCell ⟨B, 0, none⟩ v1).setCell ⟨B + 1, 0, none⟩ v2).setCell ⟨B + 1 + 1, 0, none⟩ v3).drew).putObj D (.deferred none)) B 51 v1 ∧
  Boxed (((((W.setCell ⟨B, 0, none⟩ v1).setCell ⟨B + 1, 0, none⟩ v2).setCell ⟨B + 1 + 1, 0, none⟩ v3).drew).putObj D (.deferred none)) (B + 1) 66 v2 ∧
  Boxed (((((W.setCell ⟨B, 0, none⟩ v1).setCell ⟨B + 1, 0, none⟩ v2).setCell ⟨B + 1 + 1, 0, none⟩ v3).drew).putObj D (.deferred none)) (B + 1 + 1) 34 v3 := by
 have n1 : some D ≠ some B := by intro e; injection e with e; subst e; rw [show W.heap[D]? = _ from b1] at hK; cases hK
 have n2 : some D ≠ some (B + 1) := by intro e; injection e with e; subst e; rw [show W.heap[B + 1]? = _ from b2] at hK; cases hK
 have n3 : some D ≠ some (B + 1 + 1) := by intro e; injection e with e; subst e; rw [show W.heap[B + 1 + 1]? = _ from b3] at hK; cases hK
 have hlt := (Array.getElem?_eq_some_iff.1 hK).1
 have g1 := grownBy_setCell' W B v1
 have g2 := grownBy_setCell' (W.setCell ⟨B, 0, none⟩ v1) (B + 1) v2
 have g3 := grownBy_setCell' ((W.setCell ⟨B, 0, none⟩ v1).setCell ⟨B + 1, 0, none⟩ v2) (B + 1 + 1) v3
 have g3' : ((W.setCell ⟨B, 0, none⟩ v1).setCell ⟨B + 1, 0, none⟩ v2).grownBy ((((W.setCell ⟨B, 0, none⟩ v1).setCell ⟨B + 1, 0, none⟩ v2).setCell ⟨B + 1 + 1, 0, none⟩ v3).drew) (some (B + 1 + 1)) := ⟨g3.os, g3.tape, g3.output, g3.size, g3.block⟩
 have d1 := (g1.block D hlt n1).trans hK
 have d2 := (g2.block D (Array.getElem?_eq_some_iff.1 d1).1 n2).trans d1
 have d3 := (g3.block D (Array.getElem?_eq_some_iff.1 d2).1 n3).trans d2
 have g4 := grownBy_putObj' ((((W.setCell ⟨B, 0, none⟩ v1).setCell ⟨B + 1, 0, none⟩ v2).setCell ⟨B + 1 + 1, 0, none⟩ v3).drew) D (.deferred none)
 have i1 : B ≠ B + 1 := by omega
 refine ⟨d3, ?_, ?_, ?_⟩
 ·exact Boxed.kept (W := ((((W.setCell ⟨B, 0, none⟩ v1).setCell ⟨B + 1, 0, none⟩ v2).setCell ⟨B + 1 + 1, 0, none⟩ v3).drew)) (((b1.set v1).kept g2 (by simp)).kept g3' (by simp; omega)) g4 (fun e => n1 e.symm)
 ·exact Boxed.kept (W := ((((W.setCell ⟨B, 0, none⟩ v1).setCell ⟨B + 1, 0, none⟩ v2).setCell ⟨B + 1 + 1, 0, none⟩ v3).drew)) (((b2.kept g1 (by simp)).set v2).kept g3' (by simp)) g4 (fun e => n2 e.symm)
 ·exact Boxed.kept (W := ((((W.setCell ⟨B, 0, none⟩ v1).setCell ⟨B + 1, 0, none⟩ v2).setCell ⟨B + 1 + 1, 0, none⟩ v3).drew)) (((b3.kept g1 (by simp; omega)).kept g2 (by simp)).set v3) g4 (fun e => n3 e.symm)
theorem own_set {α : Type} {sz : Nat} {e : TypeId} {enc : α → List Value} {W : World} {base b : Nat} {t : TypeId} {u v v' : Value} {l : List α} (h : Own e sz enc W base v l) (hb : Boxed W b t u) (hne : t ≠ e) : Own e sz enc (W.setCell ⟨b, 0, none⟩ v') base v l :=
 h.kept (grownBy_setCell' W b v') (.inr (hb.not_row hne h).symm)
theorem items_bd (b : List Int) (k : Nat) (cur : List Int) : ∀ x ∈ itemsA k cur (b.drop 1), x.2.length ≤ cur.length + b.length := by
 have h : ∀ (l : List Int) (k : Nat) (cur : List Int), ∀ x ∈ itemsA k cur l, x.2.length ≤ cur.length + l.length := by
  intro l
  induction l with
  | nil => intro k cur x hx; rw [itemsA] at hx; split at hx <;> simp_all
  | cons y l ih =>
   intro k cur x hx
   rw [itemsA] at hx
   split at hx
   ·split at hx
    ·simp at hx; subst hx; simp
    ·rcases List.mem_cons.1 hx with rfl | hx
     ·simp
     ·have := ih _ _ x hx; simp at this ⊢; omega
   ·have := ih _ _ x hx; simp at this ⊢; omega
 intro x hx
 have := h _ _ _ x hx
 simp at this; omega
theorem items_len (b : List Int) (k : Nat) (cur : List Int) : (itemsA k cur (b.drop 1)).length ≤ b.length + 1 := by
 have h : ∀ (l : List Int) (k : Nat) (cur : List Int), (itemsA k cur l).length ≤ l.length + 1 := by
  intro l
  induction l with
  | nil => intro k cur; rw [itemsA]; split <;> simp
  | cons y l ih =>
   intro k cur
   rw [itemsA]
   split
   ·split
    ·simp
    ·have := ih (k + cur.length + 1) []; simp; omega
   ·have := ih k (cur ++ [y]); simp at this ⊢; omega
 have := h (b.drop 1) k cur
 have e : (b.drop 1).length ≤ b.length := by rw [List.length_drop]; omega
 omega
def parE (b : List Int) : Int := if parB b then 0 else 19

theorem res3 {w : World} {tmps : Array Value} {B1 B2 B3 : Nat} {v1 v2 v3 : Value} (b1 : Boxed w B1 51 v1) (b2 : Boxed w B2 66 v2) (b3 : Boxed w B3 34 v3)
  (h1 : tmps.getD 2 undef = .pointer (some ⟨B1, 0, none⟩)) (h2 : tmps.getD 3 undef = .pointer (some ⟨B2, 0, none⟩)) (h3 : tmps.getD 4 undef = .pointer (some ⟨B3, 0, none⟩)) :
  (results Tryz.f35 tmps).run Tryz.prog w = .ok (.tuple #[v1, v2, v3]) w :=
 results_ccc rfl h1 h2 h3 (run_loadVar_one Tryz.underlying51 rfl b1.cell) (run_loadVar_one Tryz.underlying66 rfl b2.cell) (run_loadVar_one Tryz.underlying34 rfl b3.cell)
theorem boxes3 (w : World) (v1 v2 v3 : Value) : Boxed (((w.alloc (.cells #[v1] 51)).alloc (.cells #[v2] 66)).alloc (.cells #[v3] 34)) w.heap.size 51 v1 ∧
  Boxed (((w.alloc (.cells #[v1] 51)).alloc (.cells #[v2] 66)).alloc (.cells #[v3] 34)) (w.heap.size + 1) 66 v2 ∧
  Boxed (((w.alloc (.cells #[v1] 51)).alloc (.cells #[v2] 66)).alloc (.cells #[v3] 34)) (w.heap.size + 1 + 1) 34 v3 := by
 refine ⟨((Boxed.new w _ _).alloc _).alloc _, ?_, ?_⟩
 ·have h := Boxed.new (w.alloc (.cells #[v1] 51)) 66 v2
  rw [World.size_alloc] at h
  exact h.alloc _
 ·have h := Boxed.new ((w.alloc (.cells #[v1] 51)).alloc (.cells #[v2] 66)) 34 v3
  rw [World.size_alloc, World.size_alloc] at h
  exact h

theorem cell_of_box {X : World} {b : Nat} {t : TypeId} {v : Value} {j : Nat} {u : Value} (h : Boxed X b t v) (hu : [v][j]? = some u) : X.cell? ⟨b, j, none⟩ = some u := by
 cases j with
 | zero => simp at hu; subst hu; exact h.cell
 | succ j => simp at hu
theorem parse_fin {w W X : World} {bv : Value} {pre : List (Nat × List Int)} {k : Nat} {t : List Int} {S : ByteArray} {v4 v5 v4' v5' : Value} {ps : List ByteArray} {qs : List Int}
  (hI : ParI w w.heap.size bv pre W) (x4 : Boxed W (w.heap.size + 1 + 1 + 1) 51 v4) (x5 : Boxed W (w.heap.size + 1 + 1 + 1 + 1) 66 v5) (hte : t ≠ []) (hS : strOfNums t = S) (hps : (pre.map fun x => strOfNums x.2) = ps) (hqs : (pre.map fun x => ((x.1 : Nat) : Int)) = qs) (M : Mid w.heap.size W X) (HB : w.heap.size ≤ X.heap.size)
  (o4 : OwnS X w.heap.size v4' (ps ++ [S])) (o5 : OwnI X w.heap.size v5' (qs ++ [(k : Int)])) :
  KeepsOthers W ((X.setCell ⟨w.heap.size + 1 + 1 + 1, 0, none⟩ v4').setCell ⟨w.heap.size + 1 + 1 + 1 + 1, 0, none⟩ v5') ∧ KpT w.heap.size (w.heap.size + 1 + 1 + 1 + 1 + 1) W ((X.setCell ⟨w.heap.size + 1 + 1 + 1, 0, none⟩ v4').setCell ⟨w.heap.size + 1 + 1 + 1 + 1, 0, none⟩ v5') ∧
   ParI w w.heap.size bv (pre ++ [(k, t)]) ((X.setCell ⟨w.heap.size + 1 + 1 + 1, 0, none⟩ v4').setCell ⟨w.heap.size + 1 + 1 + 1 + 1, 0, none⟩ v5') := by
 have y1 := M.box _ _ _ hI.b1 (by decide) (by decide)
 have y2 := M.box _ _ _ hI.b2 (by decide) (by decide)
 have y3 := M.box _ _ _ hI.b3 (by decide) (by decide)
 have y4 := M.box _ _ _ x4 (by decide) (by decide)
 have y5 := M.box _ _ _ x5 (by decide) (by decide)
 have y6 := M.box _ _ _ hI.b6 (by decide) (by decide)
 have g4 := grownBy_setCell' X (w.heap.size + 1 + 1 + 1) v4'
 have g5 := grownBy_setCell' (X.setCell ⟨w.heap.size + 1 + 1 + 1, 0, none⟩ v4') (w.heap.size + 1 + 1 + 1 + 1) v5'
 have z5 := y5.kept g4 (by simp)
 have z6 := (y6.kept g4 (by simp <;> omega)).kept g5 (by simp)
 have hb := (M.bel.setCell (p := ⟨w.heap.size + 1 + 1 + 1, 0, none⟩) (by simp <;> omega) v4').setCell (p := ⟨w.heap.size + 1 + 1 + 1 + 1, 0, none⟩) (by simp <;> omega) v5'
 refine ⟨(M.ko.trans (KeepsOthers.setCell _ _ _)).trans (KeepsOthers.setCell _ _ _), ⟨hb, z6.trans hI.b6.symm⟩, ?_, (y1.kept g4 (by simp <;> omega)).kept g5 (by simp <;> omega), (y2.kept g4 (by simp <;> omega)).kept g5 (by simp <;> omega), (y3.kept g4 (by simp)).kept g5 (by simp <;> omega), ⟨v4', (y4.set _).kept g5 (by simp), ?_⟩, ⟨v5', z5.set _, ?_⟩, z6, Below.trans hI.ext hb⟩
 ·intro x hx
  rcases List.mem_append.1 hx with h | h
  ·exact hI.ne x h
  ·simp at h; subst h; exact hte
 ·have e : ((pre ++ [(k, t)]).map fun x => strOfNums x.2) = ps ++ [S] := by rw [List.map_append, hps, ← hS]; rfl
  rw [e]
  exact own_set (own_set o4 y4 (by decide)) z5 (by decide)
 ·have e : ((pre ++ [(k, t)]).map fun x => ((x.1 : Nat) : Int)) = qs ++ [(k : Int)] := by rw [List.map_append, hqs]; rfl
  rw [e]
  exact own_set (own_set o5 y4 (by decide)) z5 (by decide)
theorem mb4 {B b4 b5 : Nat} {W X : World} {v4 v5 : Value} (M : Mid B W X) (x4 : Boxed W b4 51 v4) (x5 : Boxed W b5 66 v5) :
  X.cell? ⟨b4, 0, none⟩ = some v4 ∧ X.cell? ⟨b5, 0, none⟩ = some v5 ∧ X.frozen? ⟨b4, 0, none⟩ = false ∧ X.frozen? ⟨b5, 0, none⟩ = false :=
 ⟨(M.box _ _ _ x4 (by decide) (by decide)).cell, (M.box _ _ _ x5 (by decide) (by decide)).cell, (M.box _ _ _ x4 (by decide) (by decide)).frozen, (M.box _ _ _ x5 (by decide) (by decide)).frozen⟩
set_option maxRecDepth 100000 in
set_option maxHeartbeats 20000000 in
theorem strtab_Parse_any (v : Value) (l : List Int) (w : World) (hv : IsB w v l) (hl : l.length ≤ 1000000000) :
  Calls Tryz.prog 35 #[v] w fun e w' => ∃ v' o', e = .returned (.tuple #[v', o', .int .i64 (parE l)]) ∧ IsStrs w' v' (parL l) ∧ Ext w w' := by
 obtain ⟨A, c, rfl, hc, -, hv'⟩ := hv.form
 have hro : Fence.wide.round = none := rfl
 refine (callsIn_wide (n := 8)).1 ?_
 refine callsIn_of_wp_marks Tryz.func35 rfl trivial ?_ hro
 simp only [Tryz.ntmps35, List.size_toArray, List.length_cons, List.length_nil, Nat.reduceAdd, Nat.reduceSub, Array.replicate_succ, Array.replicate_zero, List.push_toArray, List.append_toArray, List.nil_append, List.cons_append]
 by_cases h0 : l = []
 ·subst h0
  gi_wp2
  refine ⟨_, res3 (boxes3 w _ _ _).1 (boxes3 w _ _ _).2.1 (boxes3 w _ _ _).2.2 rfl rfl rfl, ?_⟩
  exact ⟨_, _, rfl, Sl.nil _, ((Ext.new _ _).alloc _).alloc _⟩
 ·obtain ⟨x, l', rfl⟩ := List.exists_cons_of_ne_nil h0
  obtain ⟨b, o, rfl, d1, hx0, hx1⟩ := hv'.get (i := 0) (x := x) rfl
  rw [Nat.zero_mul, Nat.add_zero] at d1
  obtain ⟨N, hN⟩ : ∃ N, N = (x :: l').length := ⟨_, rfl⟩
  rw [← hN] at hv hv' hc ⊢
  have hN1 : 1 ≤ N := by rw [hN]; simp
  have hN0 : ((N : Int) == 0) = false := beq_eq_false_iff_ne.2 (by omega)
  have HN := hx hN
  clear hN h0
  have e3 := ((Ext.new w (.cells #[.slice none 0 0] 51)).alloc (.cells #[.slice none 0 0] 66)).alloc (.cells #[.int .i64 0] 34)
  have d3 := e3.cell d1
  by_cases hz : x = 0
  ·subst hz
   have HB := hx hv
   gi_wp2_with (first | (refine ⟨trivial, ?_⟩; gi_at_call 71; refine (texts_in Fence.wide _ trivial rfl _ _ _ _).mono ?_; rintro e w1 ⟨rfl, rfl⟩))
   have hbx := boxes3 w (.slice none 0 0) (.slice none 0 0) (.int .i64 0)
   obtain ⟨W3, hW3⟩ : ∃ W3, W3 = ((w.alloc (.cells #[.slice none 0 0] 51)).alloc (.cells #[.slice none 0 0] 66)).alloc (.cells #[.int .i64 0] 34) := ⟨_, rfl⟩
   have hsz3 : W3.heap.size = w.heap.size + 1 + 1 + 1 := by rw [hW3]; simp
   rw [← hW3] at hbx e3 d3 ⊢
   clear hW3
   have b4 := Boxed.new W3 51 (.slice none 0 0)
   have b5 := Boxed.new (W3.alloc (.cells #[.slice none 0 0] 51)) 66 (.slice none 0 0)
   have b6 := Boxed.new ((W3.alloc (.cells #[.slice none 0 0] 51)).alloc (.cells #[.slice none 0 0] 66)) 28 (.slice (some ⟨b, o, none⟩) N c)
   simp only [World.size_alloc, hsz3] at b4 b5 b6 ⊢
   have e6 : Ext w (((W3.alloc (.cells #[.slice none 0 0] 51)).alloc (.cells #[.slice none 0 0] 66)).alloc (.cells #[.slice (some ⟨b, o, none⟩) N c] 28)) := ((e3.alloc _).alloc _).alloc _
   refine wpIn_rangeFunc_ownF hro (by omega) (gf := 101) (lb := #[.pointer (some ⟨w.heap.size + 1 + 1 + 1 + 1 + 1, 0, none⟩)]) rfl trivial (enters_of Tryz.func101 (by kernel_rfl) rfl)
    (texts_stops 7 (by omega) (w.heap.size + 1 + 1 + 1 + 1 + 1) (.slice (some ⟨b, o, none⟩) N c) (0 :: l') hl _ w b6 (by simp [hsz3]) hv e6) KpT.trans
    (fun W l ob ob' h1 h2 _ _ => KpT.putObj (w := ((W3.alloc (.cells #[.slice none 0 0] 51)).alloc (.cells #[.slice none 0 0] 66)).alloc (.cells #[.slice (some ⟨b, o, none⟩) N c] 28)) ob' (by simp [hsz3]; omega) (by simp [hsz3]) h1 h2) (Below.refl _ _) (fun _ => rfl)
    (ParI w w.heap.size (.slice (some ⟨b, o, none⟩) N c)) (ParX w w.heap.size) (ParI.own (by simp [hsz3]; omega)) (fun c => ParX.own (by simp [hsz3]; omega))
    ⟨by simp, ((hbx.1.alloc _).alloc _).alloc _, ((hbx.2.1.alloc _).alloc _).alloc _, ((hbx.2.2.alloc _).alloc _).alloc _, ⟨_, (b4.alloc _).alloc _, Own.nil _ _ _ _ _⟩, ⟨_, b5.alloc _, Own.nil _ _ _ _ _⟩, b6, e6⟩
    (fun x => { tmps := #[.slice (some ⟨b, o, none⟩) N c, undef, .pointer (some ⟨w.heap.size, 0, none⟩), .pointer (some ⟨w.heap.size + 1, 0, none⟩), .pointer (some ⟨w.heap.size + 1 + 1, 0, none⟩), .pointer (some ⟨w.heap.size + 1 + 1 + 1, 0, none⟩), .pointer (some ⟨w.heap.size + 1 + 1 + 1 + 1, 0, none⟩),
     .int .i64 x.1, .string (strOfNums x.2), .slice (some ⟨b, o, none⟩) N c, .int .i64 N, .bool false, .bool false, .slice (some ⟨b, o, none⟩) N c, .pointer (some ⟨b, o, none⟩), .int .u8 0, .bool false, .bool false, .slice (some ⟨b, o, none⟩) N c,
     .func (.func 101) #[] #[.pointer (some ⟨w.heap.size + 1 + 1 + 1 + 1 + 1, 0, none⟩)], .int .i64 x.1, .string (strOfNums x.2), undef, undef, undef, undef, undef, undef, undef, undef, undef, undef, undef, undef], defers := [] }) ?assign ?body ?done ?stop
   case assign =>
    intro l x W K hK
    obtain ⟨k, t⟩ := x
    simp only [encTx] at hK ⊢
    gi_wp2
    exact hK
   case body =>
    rintro l pre ⟨k, t⟩ W hI hlt
    obtain ⟨v4, x4, o4⟩ := hI.b4
    obtain ⟨v5, x5, o5⟩ := hI.b5
    have c1 := hI.b1.cell
    have c2 := hI.b2.cell
    have c3 := hI.b3.cell
    have c4 := x4.cell
    have c5 := x5.cell
    have f1 := hI.b1.frozen
    have f2 := hI.b2.frozen
    have f3 := hI.b3.frozen
    by_cases hte : t = []
    ·subst hte
     have hem : (strOfNums []).toList.isEmpty = true := by rw [Go.ByteArray.toList_eq]; rfl
     have hem2 : (strOfNums []).toList = [] := by rw [Go.ByteArray.toList_eq]; rfl
     gi_wp2
     have g1 := grownBy_setCell' W w.heap.size (.slice none 0 0)
     have g2 := grownBy_setCell' (W.setCell ⟨w.heap.size, 0, none⟩ (.slice none 0 0)) (w.heap.size + 1) (.slice none 0 0)
     have g3 := grownBy_setCell' ((W.setCell ⟨w.heap.size, 0, none⟩ (.slice none 0 0)).setCell ⟨w.heap.size + 1, 0, none⟩ (.slice none 0 0)) (w.heap.size + 1 + 1) (.int .i64 19)
     exact ⟨((KeepsOthers.setCell _ _ _).trans (KeepsOthers.setCell _ _ _)).trans (KeepsOthers.setCell _ _ _), rfl, ⟨(k, []), by simp, rfl⟩,
      ((hI.b1.set _).kept g2 (by simp)).kept g3 (by simp; omega), ((hI.b2.kept g1 (by simp)).set _).kept g3 (by simp), ((hI.b3.kept g1 (by simp; omega)).kept g2 (by simp)).set _,
      ((hI.ext.setCell (a := ⟨w.heap.size, 0, none⟩) _ (Nat.le_refl _)).setCell (a := ⟨w.heap.size + 1, 0, none⟩) _ (by simp)).setCell (a := ⟨w.heap.size + 1 + 1, 0, none⟩) _ (by simp; omega)⟩
    ·have hem := toList_nums hte
     have hem2 : (strOfNums t).toList ≠ [] := by intro e; rw [e] at hem; cases hem
     gi_wp2
     generalize hS : strOfNums t = S at *
     refine wpIn_region_round (by kernel_rfl) (by kernel_rfl) (by rintro ⟨a, w', h⟩; exact h) ?_
     change wpAny _ _ _ _ 10 _ _ _
     refine wpAny_take (i := 1) (v := .string S) rfl (by kernel_rfl) (by kernel_rfl) (by kernel_rfl) (fun _ _ _ h => h) (.inl ⟨by rfl, ?_⟩) ?_
     ·intro W'; go_simp
     refine wpAny_take (i := 5) (v := .int .i64 (k : Int)) rfl (by kernel_rfl) (by kernel_rfl) (by kernel_rfl) (fun _ _ _ h => h) (.inl ⟨by rfl, ?_⟩) ?_
     ·intro W'; go_simp
     simp only [Act.put, List.setIfInBounds_toArray, List.set_cons_zero, List.set_cons_succ]
     have M0 := (Mid.refl w.heap.size W).drew
     have HB0 : w.heap.size ≤ W.drew.heap.size := hI.ext.size
     have o4_0 : OwnS W.drew w.heap.size v4 (pre.map fun x => strOfNums x.2) := o4
     have o5_0 : OwnI W.drew w.heap.size v5 (pre.map fun x => ((x.1 : Nat) : Int)) := o5
     have hpl : pre.length ≤ 1000000001 := Nat.le_trans (Nat.le_of_lt hlt) (Nat.le_trans (items_len (0 :: l') 1 []) (by omega))
     have hl4 : ((pre.map fun x => strOfNums x.2).length + 1) * 16 ≤ 140737488355328 := by rw [List.length_map]; omega
     have hl5 : ((pre.map fun x => ((x.1 : Nat) : Int)).length + 1) * 8 ≤ 140737488355328 := by rw [List.length_map]; omega
     generalize hps : (pre.map fun x => strOfNums x.2) = ps at *
     generalize hqs : (pre.map fun x => ((x.1 : Nat) : Int)) = qs at *
     clear c1 c2 c3 f1 f2 f3 c4 c5 hpl
     generalize hX0 : W.drew = X0 at M0 HB0 o4_0 o5_0 ⊢
     obtain ⟨c4, c5, f4, f5⟩ := mb4 M0 x4 x5
     refine wpAny_ready (rs := [0, 2, 4, 6]) (by kernel_rfl) (by simp) ?_
     refine AllReady.cons rfl (fun K hK => ?_) (AllReady.cons rfl (fun K hK => ?_) (AllReady.cons rfl (fun K hK => ?_) (AllReady.cons rfl (fun K hK => ?_) (AllReady.nil))))
     ·skip
      go_simp
      refine hK _ _ ?_
      clear hK K
      refine wpAny_ready (rs := [2, 4, 6]) (by kernel_rfl) (by simp) ?_
      refine AllReady.cons rfl (fun K hK => ?_) (AllReady.cons rfl (fun K hK => ?_) (AllReady.cons rfl (fun K hK => ?_) (AllReady.nil)))
      ·skip
       go_simp
       refine hK _ _ ?_
       clear hK K
       have M2 := M0.alloc HB0 (.cells #[.string S] 9)
       have HB2 : w.heap.size ≤ (X0.alloc (.cells #[.string S] 9)).heap.size := by rw [World.size_alloc]; omega
       have o4_2 := o4_0.alloc (.cells #[.string S] 9)
       have o5_2 := o5_0.alloc (.cells #[.string S] 9)
       have t2_2 := Boxed.new X0 9 (.string S)
       clear c4 c5 f4 f5
       generalize X0.alloc (.cells #[.string S] 9) = X2 at *
       obtain ⟨c4, c5, f4, f5⟩ := mb4 M2 x4 x5
       refine wpAny_ready (rs := [3, 4, 6]) (by kernel_rfl) (by simp) ?_
       refine AllReady.cons rfl (fun K hK => ?_) (AllReady.cons rfl (fun K hK => ?_) (AllReady.cons rfl (fun K hK => ?_) (AllReady.nil)))
       ·skip
        refine step_app tyS encS_ok o4_2 S (fun j u hu => cell_of_box t2_2 hu) rfl rfl (by rfl) (by rfl) HB2 (by decide) hl4 ?_
        intro g3 cap3 X3 oo_3 gg_3
        refine hK _ _ ?_
        clear hK K
        have M3 := M2.app o4_2 (.inl rfl) gg_3 HB2
        have HB3 := Nat.le_trans HB2 gg_3.size
        have o5_3 := o5_2.kept gg_3 (o5_2.type_ne o4_2 (by decide))
        clear c4 c5 f4 f5
        obtain ⟨c4, c5, f4, f5⟩ := mb4 M3 x4 x5
        simp only [Act.put, List.setIfInBounds_toArray, List.set_cons_zero, List.set_cons_succ]
        refine wpAny_ready (rs := [4, 6]) (by kernel_rfl) (by simp) ?_
        refine AllReady.cons rfl (fun K hK => ?_) (AllReady.cons rfl (fun K hK => ?_) (AllReady.nil))
        ·skip
         go_simp
         refine hK _ _ ?_
         clear hK K
         refine wpAny_ready (rs := [6]) (by kernel_rfl) (by simp) (AllReady.cons rfl (fun K hK => ?_) AllReady.nil)
         go_simp
         refine hK _ _ ?_
         clear hK K
         have M5 := M3.alloc HB3 (.cells #[.int .i64 (k : Int)] 3)
         have HB5 : w.heap.size ≤ (X3.alloc (.cells #[.int .i64 (k : Int)] 3)).heap.size := by rw [World.size_alloc]; omega
         have o4_5 := oo_3.alloc (.cells #[.int .i64 (k : Int)] 3)
         have o5_5 := o5_3.alloc (.cells #[.int .i64 (k : Int)] 3)
         have t6_5 := Boxed.new X3 3 (.int .i64 (k : Int))
         have t2_5 := t2_2.alloc (.cells #[.int .i64 (k : Int)] 3)
         clear c4 c5 f4 f5
         generalize X3.alloc (.cells #[.int .i64 (k : Int)] 3) = X5 at *
         obtain ⟨c4, c5, f4, f5⟩ := mb4 M5 x4 x5
         refine wpAny_ready (rs := [7]) (by kernel_rfl) (by simp) (AllReady.cons rfl (fun K hK => ?_) AllReady.nil)
         refine step_app tyI encI_ok o5_5 (k : Int) (fun j u hu => cell_of_box t6_5 hu) rfl rfl (by rfl) (by rfl) HB5 (by decide) hl5 ?_
         intro g6 cap6 X6 oo_6 gg_6
         refine hK _ _ ?_
         clear hK K
         have M6 := M5.app o5_5 (.inr rfl) gg_6 HB5
         have HB6 := Nat.le_trans HB5 gg_6.size
         have o4_6 := o4_5.kept gg_6 (o4_5.type_ne o5_5 (by decide))
         clear c4 c5 f4 f5
         obtain ⟨c4, c5, f4, f5⟩ := mb4 M6 x4 x5
         simp only [Act.put, List.setIfInBounds_toArray, List.set_cons_zero, List.set_cons_succ]
         refine wpAny_ready (rs := [8]) (by kernel_rfl) (by simp) (AllReady.cons rfl (fun K hK => ?_) AllReady.nil)
         go_simp
         refine hK _ _ ?_
         clear hK K
         refine wpAny_ready (rs := [9]) (by kernel_rfl) (by simp) (AllReady.cons rfl (fun K hK => ?_) AllReady.nil)
         go_simp
         refine hK _ _ ?_
         clear hK K
         refine wpAny_done (by kernel_rfl) ?_ _
         exact parse_fin hI x4 x5 hte hS hps hqs M6 HB6 o4_6 oo_6
        ·skip
         go_simp
         refine hK _ _ ?_
         clear hK K
         have M9 := M3.alloc HB3 (.cells #[.int .i64 (k : Int)] 3)
         have HB9 : w.heap.size ≤ (X3.alloc (.cells #[.int .i64 (k : Int)] 3)).heap.size := by rw [World.size_alloc]; omega
         have o4_9 := oo_3.alloc (.cells #[.int .i64 (k : Int)] 3)
         have o5_9 := o5_3.alloc (.cells #[.int .i64 (k : Int)] 3)
         have t6_9 := Boxed.new X3 3 (.int .i64 (k : Int))
         have t2_9 := t2_2.alloc (.cells #[.int .i64 (k : Int)] 3)
         clear c4 c5 f4 f5
         generalize X3.alloc (.cells #[.int .i64 (k : Int)] 3) = X9 at *
         obtain ⟨c4, c5, f4, f5⟩ := mb4 M9 x4 x5
         refine wpAny_ready (rs := [4]) (by kernel_rfl) (by simp) (AllReady.cons rfl (fun K hK => ?_) AllReady.nil)
         go_simp
         refine hK _ _ ?_
         clear hK K
         refine wpAny_ready (rs := [7]) (by kernel_rfl) (by simp) (AllReady.cons rfl (fun K hK => ?_) AllReady.nil)
         refine step_app tyI encI_ok o5_9 (k : Int) (fun j u hu => cell_of_box t6_9 hu) rfl rfl (by rfl) (by rfl) HB9 (by decide) hl5 ?_
         intro g11 cap11 X11 oo_11 gg_11
         refine hK _ _ ?_
         clear hK K
         have M11 := M9.app o5_9 (.inr rfl) gg_11 HB9
         have HB11 := Nat.le_trans HB9 gg_11.size
         have o4_11 := o4_9.kept gg_11 (o4_9.type_ne o5_9 (by decide))
         clear c4 c5 f4 f5
         obtain ⟨c4, c5, f4, f5⟩ := mb4 M11 x4 x5
         simp only [Act.put, List.setIfInBounds_toArray, List.set_cons_zero, List.set_cons_succ]
         refine wpAny_ready (rs := [8]) (by kernel_rfl) (by simp) (AllReady.cons rfl (fun K hK => ?_) AllReady.nil)
         go_simp
         refine hK _ _ ?_
         clear hK K
         refine wpAny_ready (rs := [9]) (by kernel_rfl) (by simp) (AllReady.cons rfl (fun K hK => ?_) AllReady.nil)
         go_simp
         refine hK _ _ ?_
         clear hK K
         refine wpAny_done (by kernel_rfl) ?_ _
         exact parse_fin hI x4 x5 hte hS hps hqs M11 HB11 o4_11 oo_11
       ·skip
        go_simp
        refine hK _ _ ?_
        clear hK K
        refine wpAny_ready (rs := [3, 6]) (by kernel_rfl) (by simp) ?_
        refine AllReady.cons rfl (fun K hK => ?_) (AllReady.cons rfl (fun K hK => ?_) (AllReady.nil))
        ·skip
         refine step_app tyS encS_ok o4_2 S (fun j u hu => cell_of_box t2_2 hu) rfl rfl (by rfl) (by rfl) HB2 (by decide) hl4 ?_
         intro g15 cap15 X15 oo_15 gg_15
         refine hK _ _ ?_
         clear hK K
         have M15 := M2.app o4_2 (.inl rfl) gg_15 HB2
         have HB15 := Nat.le_trans HB2 gg_15.size
         have o5_15 := o5_2.kept gg_15 (o5_2.type_ne o4_2 (by decide))
         clear c4 c5 f4 f5
         obtain ⟨c4, c5, f4, f5⟩ := mb4 M15 x4 x5
         simp only [Act.put, List.setIfInBounds_toArray, List.set_cons_zero, List.set_cons_succ]
         refine wpAny_ready (rs := [6]) (by kernel_rfl) (by simp) (AllReady.cons rfl (fun K hK => ?_) AllReady.nil)
         go_simp
         refine hK _ _ ?_
         clear hK K
         have M16 := M15.alloc HB15 (.cells #[.int .i64 (k : Int)] 3)
         have HB16 : w.heap.size ≤ (X15.alloc (.cells #[.int .i64 (k : Int)] 3)).heap.size := by rw [World.size_alloc]; omega
         have o4_16 := oo_15.alloc (.cells #[.int .i64 (k : Int)] 3)
         have o5_16 := o5_15.alloc (.cells #[.int .i64 (k : Int)] 3)
         have t6_16 := Boxed.new X15 3 (.int .i64 (k : Int))
         have t2_16 := t2_2.alloc (.cells #[.int .i64 (k : Int)] 3)
         clear c4 c5 f4 f5
         generalize X15.alloc (.cells #[.int .i64 (k : Int)] 3) = X16 at *
         obtain ⟨c4, c5, f4, f5⟩ := mb4 M16 x4 x5
         refine wpAny_ready (rs := [7]) (by kernel_rfl) (by simp) (AllReady.cons rfl (fun K hK => ?_) AllReady.nil)
         refine step_app tyI encI_ok o5_16 (k : Int) (fun j u hu => cell_of_box t6_16 hu) rfl rfl (by rfl) (by rfl) HB16 (by decide) hl5 ?_
         intro g17 cap17 X17 oo_17 gg_17
         refine hK _ _ ?_
         clear hK K
         have M17 := M16.app o5_16 (.inr rfl) gg_17 HB16
         have HB17 := Nat.le_trans HB16 gg_17.size
         have o4_17 := o4_16.kept gg_17 (o4_16.type_ne o5_16 (by decide))
         clear c4 c5 f4 f5
         obtain ⟨c4, c5, f4, f5⟩ := mb4 M17 x4 x5
         simp only [Act.put, List.setIfInBounds_toArray, List.set_cons_zero, List.set_cons_succ]
         refine wpAny_ready (rs := [8]) (by kernel_rfl) (by simp) (AllReady.cons rfl (fun K hK => ?_) AllReady.nil)
         go_simp
         refine hK _ _ ?_
         clear hK K
         refine wpAny_ready (rs := [9]) (by kernel_rfl) (by simp) (AllReady.cons rfl (fun K hK => ?_) AllReady.nil)
         go_simp
         refine hK _ _ ?_
         clear hK K
         refine wpAny_done (by kernel_rfl) ?_ _
         exact parse_fin hI x4 x5 hte hS hps hqs M17 HB17 o4_17 oo_17
        ·skip
         go_simp
         refine hK _ _ ?_
         clear hK K
         have M20 := M2.alloc HB2 (.cells #[.int .i64 (k : Int)] 3)
         have HB20 : w.heap.size ≤ (X2.alloc (.cells #[.int .i64 (k : Int)] 3)).heap.size := by rw [World.size_alloc]; omega
         have o4_20 := o4_2.alloc (.cells #[.int .i64 (k : Int)] 3)
         have o5_20 := o5_2.alloc (.cells #[.int .i64 (k : Int)] 3)
         have t6_20 := Boxed.new X2 3 (.int .i64 (k : Int))
         have t2_20 := t2_2.alloc (.cells #[.int .i64 (k : Int)] 3)
         clear c4 c5 f4 f5
         generalize X2.alloc (.cells #[.int .i64 (k : Int)] 3) = X20 at *
         obtain ⟨c4, c5, f4, f5⟩ := mb4 M20 x4 x5
         refine wpAny_ready (rs := [3]) (by kernel_rfl) (by simp) (AllReady.cons rfl (fun K hK => ?_) AllReady.nil)
         refine step_app tyS encS_ok o4_20 S (fun j u hu => cell_of_box t2_20 hu) rfl rfl (by rfl) (by rfl) HB20 (by decide) hl4 ?_
         intro g21 cap21 X21 oo_21 gg_21
         refine hK _ _ ?_
         clear hK K
         have M21 := M20.app o4_20 (.inl rfl) gg_21 HB20
         have HB21 := Nat.le_trans HB20 gg_21.size
         have o5_21 := o5_20.kept gg_21 (o5_20.type_ne o4_20 (by decide))
         have t6_21 := t6_20.kept gg_21 (t6_20.not_row (by decide) o4_20)
         clear c4 c5 f4 f5
         obtain ⟨c4, c5, f4, f5⟩ := mb4 M21 x4 x5
         simp only [Act.put, List.setIfInBounds_toArray, List.set_cons_zero, List.set_cons_succ]
         refine wpAny_ready (rs := [7]) (by kernel_rfl) (by simp) (AllReady.cons rfl (fun K hK => ?_) AllReady.nil)
         refine step_app tyI encI_ok o5_21 (k : Int) (fun j u hu => cell_of_box t6_21 hu) rfl rfl (by rfl) (by rfl) HB21 (by decide) hl5 ?_
         intro g22 cap22 X22 oo_22 gg_22
         refine hK _ _ ?_
         clear hK K
         have M22 := M21.app o5_21 (.inr rfl) gg_22 HB21
         have HB22 := Nat.le_trans HB21 gg_22.size
         have o4_22 := oo_21.kept gg_22 (oo_21.type_ne o5_21 (by decide))
         clear c4 c5 f4 f5
         obtain ⟨c4, c5, f4, f5⟩ := mb4 M22 x4 x5
         simp only [Act.put, List.setIfInBounds_toArray, List.set_cons_zero, List.set_cons_succ]
         refine wpAny_ready (rs := [8]) (by kernel_rfl) (by simp) (AllReady.cons rfl (fun K hK => ?_) AllReady.nil)
         go_simp
         refine hK _ _ ?_
         clear hK K
         refine wpAny_ready (rs := [9]) (by kernel_rfl) (by simp) (AllReady.cons rfl (fun K hK => ?_) AllReady.nil)
         go_simp
         refine hK _ _ ?_
         clear hK K
         refine wpAny_done (by kernel_rfl) ?_ _
         exact parse_fin hI x4 x5 hte hS hps hqs M22 HB22 o4_22 oo_22
       ·skip
        go_simp
        refine hK _ _ ?_
        clear hK K
        have M25 := M2.alloc HB2 (.cells #[.int .i64 (k : Int)] 3)
        have HB25 : w.heap.size ≤ (X2.alloc (.cells #[.int .i64 (k : Int)] 3)).heap.size := by rw [World.size_alloc]; omega
        have o4_25 := o4_2.alloc (.cells #[.int .i64 (k : Int)] 3)
        have o5_25 := o5_2.alloc (.cells #[.int .i64 (k : Int)] 3)
        have t6_25 := Boxed.new X2 3 (.int .i64 (k : Int))
        have t2_25 := t2_2.alloc (.cells #[.int .i64 (k : Int)] 3)
        clear c4 c5 f4 f5
        generalize X2.alloc (.cells #[.int .i64 (k : Int)] 3) = X25 at *
        obtain ⟨c4, c5, f4, f5⟩ := mb4 M25 x4 x5
        refine wpAny_ready (rs := [3, 4]) (by kernel_rfl) (by simp) ?_
        refine AllReady.cons rfl (fun K hK => ?_) (AllReady.cons rfl (fun K hK => ?_) (AllReady.nil))
        ·skip
         refine step_app tyS encS_ok o4_25 S (fun j u hu => cell_of_box t2_25 hu) rfl rfl (by rfl) (by rfl) HB25 (by decide) hl4 ?_
         intro g26 cap26 X26 oo_26 gg_26
         refine hK _ _ ?_
         clear hK K
         have M26 := M25.app o4_25 (.inl rfl) gg_26 HB25
         have HB26 := Nat.le_trans HB25 gg_26.size
         have o5_26 := o5_25.kept gg_26 (o5_25.type_ne o4_25 (by decide))
         have t6_26 := t6_25.kept gg_26 (t6_25.not_row (by decide) o4_25)
         clear c4 c5 f4 f5
         obtain ⟨c4, c5, f4, f5⟩ := mb4 M26 x4 x5
         simp only [Act.put, List.setIfInBounds_toArray, List.set_cons_zero, List.set_cons_succ]
         refine wpAny_ready (rs := [4]) (by kernel_rfl) (by simp) (AllReady.cons rfl (fun K hK => ?_) AllReady.nil)
         go_simp
         refine hK _ _ ?_
         clear hK K
         refine wpAny_ready (rs := [7]) (by kernel_rfl) (by simp) (AllReady.cons rfl (fun K hK => ?_) AllReady.nil)
         refine step_app tyI encI_ok o5_26 (k : Int) (fun j u hu => cell_of_box t6_26 hu) rfl rfl (by rfl) (by rfl) HB26 (by decide) hl5 ?_
         intro g28 cap28 X28 oo_28 gg_28
         refine hK _ _ ?_
         clear hK K
         have M28 := M26.app o5_26 (.inr rfl) gg_28 HB26
         have HB28 := Nat.le_trans HB26 gg_28.size
         have o4_28 := oo_26.kept gg_28 (oo_26.type_ne o5_26 (by decide))
         clear c4 c5 f4 f5
         obtain ⟨c4, c5, f4, f5⟩ := mb4 M28 x4 x5
         simp only [Act.put, List.setIfInBounds_toArray, List.set_cons_zero, List.set_cons_succ]
         refine wpAny_ready (rs := [8]) (by kernel_rfl) (by simp) (AllReady.cons rfl (fun K hK => ?_) AllReady.nil)
         go_simp
         refine hK _ _ ?_
         clear hK K
         refine wpAny_ready (rs := [9]) (by kernel_rfl) (by simp) (AllReady.cons rfl (fun K hK => ?_) AllReady.nil)
         go_simp
         refine hK _ _ ?_
         clear hK K
         refine wpAny_done (by kernel_rfl) ?_ _
         exact parse_fin hI x4 x5 hte hS hps hqs M28 HB28 o4_28 oo_28
        ·skip
         go_simp
         refine hK _ _ ?_
         clear hK K
         refine wpAny_ready (rs := [3]) (by kernel_rfl) (by simp) (AllReady.cons rfl (fun K hK => ?_) AllReady.nil)
         refine step_app tyS encS_ok o4_25 S (fun j u hu => cell_of_box t2_25 hu) rfl rfl (by rfl) (by rfl) HB25 (by decide) hl4 ?_
         intro g32 cap32 X32 oo_32 gg_32
         refine hK _ _ ?_
         clear hK K
         have M32 := M25.app o4_25 (.inl rfl) gg_32 HB25
         have HB32 := Nat.le_trans HB25 gg_32.size
         have o5_32 := o5_25.kept gg_32 (o5_25.type_ne o4_25 (by decide))
         have t6_32 := t6_25.kept gg_32 (t6_25.not_row (by decide) o4_25)
         clear c4 c5 f4 f5
         obtain ⟨c4, c5, f4, f5⟩ := mb4 M32 x4 x5
         simp only [Act.put, List.setIfInBounds_toArray, List.set_cons_zero, List.set_cons_succ]
         refine wpAny_ready (rs := [7]) (by kernel_rfl) (by simp) (AllReady.cons rfl (fun K hK => ?_) AllReady.nil)
         refine step_app tyI encI_ok o5_32 (k : Int) (fun j u hu => cell_of_box t6_32 hu) rfl rfl (by rfl) (by rfl) HB32 (by decide) hl5 ?_
         intro g33 cap33 X33 oo_33 gg_33
         refine hK _ _ ?_
         clear hK K
         have M33 := M32.app o5_32 (.inr rfl) gg_33 HB32
         have HB33 := Nat.le_trans HB32 gg_33.size
         have o4_33 := oo_32.kept gg_33 (oo_32.type_ne o5_32 (by decide))
         clear c4 c5 f4 f5
         obtain ⟨c4, c5, f4, f5⟩ := mb4 M33 x4 x5
         simp only [Act.put, List.setIfInBounds_toArray, List.set_cons_zero, List.set_cons_succ]
         refine wpAny_ready (rs := [8]) (by kernel_rfl) (by simp) (AllReady.cons rfl (fun K hK => ?_) AllReady.nil)
         go_simp
         refine hK _ _ ?_
         clear hK K
         refine wpAny_ready (rs := [9]) (by kernel_rfl) (by simp) (AllReady.cons rfl (fun K hK => ?_) AllReady.nil)
         go_simp
         refine hK _ _ ?_
         clear hK K
         refine wpAny_done (by kernel_rfl) ?_ _
         exact parse_fin hI x4 x5 hte hS hps hqs M33 HB33 o4_33 oo_33
      ·skip
       go_simp
       refine hK _ _ ?_
       clear hK K
       refine wpAny_ready (rs := [2, 6]) (by kernel_rfl) (by simp) ?_
       refine AllReady.cons rfl (fun K hK => ?_) (AllReady.cons rfl (fun K hK => ?_) (AllReady.nil))
       ·skip
        go_simp
        refine hK _ _ ?_
        clear hK K
        have M37 := M0.alloc HB0 (.cells #[.string S] 9)
        have HB37 : w.heap.size ≤ (X0.alloc (.cells #[.string S] 9)).heap.size := by rw [World.size_alloc]; omega
        have o4_37 := o4_0.alloc (.cells #[.string S] 9)
        have o5_37 := o5_0.alloc (.cells #[.string S] 9)
        have t2_37 := Boxed.new X0 9 (.string S)
        clear c4 c5 f4 f5
        generalize X0.alloc (.cells #[.string S] 9) = X37 at *
        obtain ⟨c4, c5, f4, f5⟩ := mb4 M37 x4 x5
        refine wpAny_ready (rs := [3, 6]) (by kernel_rfl) (by simp) ?_
        refine AllReady.cons rfl (fun K hK => ?_) (AllReady.cons rfl (fun K hK => ?_) (AllReady.nil))
        ·skip
         refine step_app tyS encS_ok o4_37 S (fun j u hu => cell_of_box t2_37 hu) rfl rfl (by rfl) (by rfl) HB37 (by decide) hl4 ?_
         intro g38 cap38 X38 oo_38 gg_38
         refine hK _ _ ?_
         clear hK K
         have M38 := M37.app o4_37 (.inl rfl) gg_38 HB37
         have HB38 := Nat.le_trans HB37 gg_38.size
         have o5_38 := o5_37.kept gg_38 (o5_37.type_ne o4_37 (by decide))
         clear c4 c5 f4 f5
         obtain ⟨c4, c5, f4, f5⟩ := mb4 M38 x4 x5
         simp only [Act.put, List.setIfInBounds_toArray, List.set_cons_zero, List.set_cons_succ]
         refine wpAny_ready (rs := [6]) (by kernel_rfl) (by simp) (AllReady.cons rfl (fun K hK => ?_) AllReady.nil)
         go_simp
         refine hK _ _ ?_
         clear hK K
         have M39 := M38.alloc HB38 (.cells #[.int .i64 (k : Int)] 3)
         have HB39 : w.heap.size ≤ (X38.alloc (.cells #[.int .i64 (k : Int)] 3)).heap.size := by rw [World.size_alloc]; omega
         have o4_39 := oo_38.alloc (.cells #[.int .i64 (k : Int)] 3)
         have o5_39 := o5_38.alloc (.cells #[.int .i64 (k : Int)] 3)
         have t6_39 := Boxed.new X38 3 (.int .i64 (k : Int))
         have t2_39 := t2_37.alloc (.cells #[.int .i64 (k : Int)] 3)
         clear c4 c5 f4 f5
         generalize X38.alloc (.cells #[.int .i64 (k : Int)] 3) = X39 at *
         obtain ⟨c4, c5, f4, f5⟩ := mb4 M39 x4 x5
         refine wpAny_ready (rs := [7]) (by kernel_rfl) (by simp) (AllReady.cons rfl (fun K hK => ?_) AllReady.nil)
         refine step_app tyI encI_ok o5_39 (k : Int) (fun j u hu => cell_of_box t6_39 hu) rfl rfl (by rfl) (by rfl) HB39 (by decide) hl5 ?_
         intro g40 cap40 X40 oo_40 gg_40
         refine hK _ _ ?_
         clear hK K
         have M40 := M39.app o5_39 (.inr rfl) gg_40 HB39
         have HB40 := Nat.le_trans HB39 gg_40.size
         have o4_40 := o4_39.kept gg_40 (o4_39.type_ne o5_39 (by decide))
         clear c4 c5 f4 f5
         obtain ⟨c4, c5, f4, f5⟩ := mb4 M40 x4 x5
         simp only [Act.put, List.setIfInBounds_toArray, List.set_cons_zero, List.set_cons_succ]
         refine wpAny_ready (rs := [8]) (by kernel_rfl) (by simp) (AllReady.cons rfl (fun K hK => ?_) AllReady.nil)
         go_simp
         refine hK _ _ ?_
         clear hK K
         refine wpAny_ready (rs := [9]) (by kernel_rfl) (by simp) (AllReady.cons rfl (fun K hK => ?_) AllReady.nil)
         go_simp
         refine hK _ _ ?_
         clear hK K
         refine wpAny_done (by kernel_rfl) ?_ _
         exact parse_fin hI x4 x5 hte hS hps hqs M40 HB40 o4_40 oo_40
        ·skip
         go_simp
         refine hK _ _ ?_
         clear hK K
         have M43 := M37.alloc HB37 (.cells #[.int .i64 (k : Int)] 3)
         have HB43 : w.heap.size ≤ (X37.alloc (.cells #[.int .i64 (k : Int)] 3)).heap.size := by rw [World.size_alloc]; omega
         have o4_43 := o4_37.alloc (.cells #[.int .i64 (k : Int)] 3)
         have o5_43 := o5_37.alloc (.cells #[.int .i64 (k : Int)] 3)
         have t6_43 := Boxed.new X37 3 (.int .i64 (k : Int))
         have t2_43 := t2_37.alloc (.cells #[.int .i64 (k : Int)] 3)
         clear c4 c5 f4 f5
         generalize X37.alloc (.cells #[.int .i64 (k : Int)] 3) = X43 at *
         obtain ⟨c4, c5, f4, f5⟩ := mb4 M43 x4 x5
         refine wpAny_ready (rs := [3]) (by kernel_rfl) (by simp) (AllReady.cons rfl (fun K hK => ?_) AllReady.nil)
         refine step_app tyS encS_ok o4_43 S (fun j u hu => cell_of_box t2_43 hu) rfl rfl (by rfl) (by rfl) HB43 (by decide) hl4 ?_
         intro g44 cap44 X44 oo_44 gg_44
         refine hK _ _ ?_
         clear hK K
         have M44 := M43.app o4_43 (.inl rfl) gg_44 HB43
         have HB44 := Nat.le_trans HB43 gg_44.size
         have o5_44 := o5_43.kept gg_44 (o5_43.type_ne o4_43 (by decide))
         have t6_44 := t6_43.kept gg_44 (t6_43.not_row (by decide) o4_43)
         clear c4 c5 f4 f5
         obtain ⟨c4, c5, f4, f5⟩ := mb4 M44 x4 x5
         simp only [Act.put, List.setIfInBounds_toArray, List.set_cons_zero, List.set_cons_succ]
         refine wpAny_ready (rs := [7]) (by kernel_rfl) (by simp) (AllReady.cons rfl (fun K hK => ?_) AllReady.nil)
         refine step_app tyI encI_ok o5_44 (k : Int) (fun j u hu => cell_of_box t6_44 hu) rfl rfl (by rfl) (by rfl) HB44 (by decide) hl5 ?_
         intro g45 cap45 X45 oo_45 gg_45
         refine hK _ _ ?_
         clear hK K
         have M45 := M44.app o5_44 (.inr rfl) gg_45 HB44
         have HB45 := Nat.le_trans HB44 gg_45.size
         have o4_45 := oo_44.kept gg_45 (oo_44.type_ne o5_44 (by decide))
         clear c4 c5 f4 f5
         obtain ⟨c4, c5, f4, f5⟩ := mb4 M45 x4 x5
         simp only [Act.put, List.setIfInBounds_toArray, List.set_cons_zero, List.set_cons_succ]
         refine wpAny_ready (rs := [8]) (by kernel_rfl) (by simp) (AllReady.cons rfl (fun K hK => ?_) AllReady.nil)
         go_simp
         refine hK _ _ ?_
         clear hK K
         refine wpAny_ready (rs := [9]) (by kernel_rfl) (by simp) (AllReady.cons rfl (fun K hK => ?_) AllReady.nil)
         go_simp
         refine hK _ _ ?_
         clear hK K
         refine wpAny_done (by kernel_rfl) ?_ _
         exact parse_fin hI x4 x5 hte hS hps hqs M45 HB45 o4_45 oo_45
       ·skip
        go_simp
        refine hK _ _ ?_
        clear hK K
        have M48 := M0.alloc HB0 (.cells #[.int .i64 (k : Int)] 3)
        have HB48 : w.heap.size ≤ (X0.alloc (.cells #[.int .i64 (k : Int)] 3)).heap.size := by rw [World.size_alloc]; omega
        have o4_48 := o4_0.alloc (.cells #[.int .i64 (k : Int)] 3)
        have o5_48 := o5_0.alloc (.cells #[.int .i64 (k : Int)] 3)
        have t6_48 := Boxed.new X0 3 (.int .i64 (k : Int))
        clear c4 c5 f4 f5
        generalize X0.alloc (.cells #[.int .i64 (k : Int)] 3) = X48 at *
        obtain ⟨c4, c5, f4, f5⟩ := mb4 M48 x4 x5
        refine wpAny_ready (rs := [2]) (by kernel_rfl) (by simp) (AllReady.cons rfl (fun K hK => ?_) AllReady.nil)
        go_simp
        refine hK _ _ ?_
        clear hK K
        have M49 := M48.alloc HB48 (.cells #[.string S] 9)
        have HB49 : w.heap.size ≤ (X48.alloc (.cells #[.string S] 9)).heap.size := by rw [World.size_alloc]; omega
        have o4_49 := o4_48.alloc (.cells #[.string S] 9)
        have o5_49 := o5_48.alloc (.cells #[.string S] 9)
        have t2_49 := Boxed.new X48 9 (.string S)
        have t6_49 := t6_48.alloc (.cells #[.string S] 9)
        clear c4 c5 f4 f5
        generalize X48.alloc (.cells #[.string S] 9) = X49 at *
        obtain ⟨c4, c5, f4, f5⟩ := mb4 M49 x4 x5
        refine wpAny_ready (rs := [3]) (by kernel_rfl) (by simp) (AllReady.cons rfl (fun K hK => ?_) AllReady.nil)
        refine step_app tyS encS_ok o4_49 S (fun j u hu => cell_of_box t2_49 hu) rfl rfl (by rfl) (by rfl) HB49 (by decide) hl4 ?_
        intro g50 cap50 X50 oo_50 gg_50
        refine hK _ _ ?_
        clear hK K
        have M50 := M49.app o4_49 (.inl rfl) gg_50 HB49
        have HB50 := Nat.le_trans HB49 gg_50.size
        have o5_50 := o5_49.kept gg_50 (o5_49.type_ne o4_49 (by decide))
        have t6_50 := t6_49.kept gg_50 (t6_49.not_row (by decide) o4_49)
        clear c4 c5 f4 f5
        obtain ⟨c4, c5, f4, f5⟩ := mb4 M50 x4 x5
        simp only [Act.put, List.setIfInBounds_toArray, List.set_cons_zero, List.set_cons_succ]
        refine wpAny_ready (rs := [7]) (by kernel_rfl) (by simp) (AllReady.cons rfl (fun K hK => ?_) AllReady.nil)
        refine step_app tyI encI_ok o5_50 (k : Int) (fun j u hu => cell_of_box t6_50 hu) rfl rfl (by rfl) (by rfl) HB50 (by decide) hl5 ?_
        intro g51 cap51 X51 oo_51 gg_51
        refine hK _ _ ?_
        clear hK K
        have M51 := M50.app o5_50 (.inr rfl) gg_51 HB50
        have HB51 := Nat.le_trans HB50 gg_51.size
        have o4_51 := oo_50.kept gg_51 (oo_50.type_ne o5_50 (by decide))
        clear c4 c5 f4 f5
        obtain ⟨c4, c5, f4, f5⟩ := mb4 M51 x4 x5
        simp only [Act.put, List.setIfInBounds_toArray, List.set_cons_zero, List.set_cons_succ]
        refine wpAny_ready (rs := [8]) (by kernel_rfl) (by simp) (AllReady.cons rfl (fun K hK => ?_) AllReady.nil)
        go_simp
        refine hK _ _ ?_
        clear hK K
        refine wpAny_ready (rs := [9]) (by kernel_rfl) (by simp) (AllReady.cons rfl (fun K hK => ?_) AllReady.nil)
        go_simp
        refine hK _ _ ?_
        clear hK K
        refine wpAny_done (by kernel_rfl) ?_ _
        exact parse_fin hI x4 x5 hte hS hps hqs M51 HB51 o4_51 oo_51
      ·skip
       go_simp
       refine hK _ _ ?_
       clear hK K
       have M54 := M0.alloc HB0 (.cells #[.int .i64 (k : Int)] 3)
       have HB54 : w.heap.size ≤ (X0.alloc (.cells #[.int .i64 (k : Int)] 3)).heap.size := by rw [World.size_alloc]; omega
       have o4_54 := o4_0.alloc (.cells #[.int .i64 (k : Int)] 3)
       have o5_54 := o5_0.alloc (.cells #[.int .i64 (k : Int)] 3)
       have t6_54 := Boxed.new X0 3 (.int .i64 (k : Int))
       clear c4 c5 f4 f5
       generalize X0.alloc (.cells #[.int .i64 (k : Int)] 3) = X54 at *
       obtain ⟨c4, c5, f4, f5⟩ := mb4 M54 x4 x5
       refine wpAny_ready (rs := [2, 4]) (by kernel_rfl) (by simp) ?_
       refine AllReady.cons rfl (fun K hK => ?_) (AllReady.cons rfl (fun K hK => ?_) (AllReady.nil))
       ·skip
        go_simp
        refine hK _ _ ?_
        clear hK K
        have M55 := M54.alloc HB54 (.cells #[.string S] 9)
        have HB55 : w.heap.size ≤ (X54.alloc (.cells #[.string S] 9)).heap.size := by rw [World.size_alloc]; omega
        have o4_55 := o4_54.alloc (.cells #[.string S] 9)
        have o5_55 := o5_54.alloc (.cells #[.string S] 9)
        have t2_55 := Boxed.new X54 9 (.string S)
        have t6_55 := t6_54.alloc (.cells #[.string S] 9)
        clear c4 c5 f4 f5
        generalize X54.alloc (.cells #[.string S] 9) = X55 at *
        obtain ⟨c4, c5, f4, f5⟩ := mb4 M55 x4 x5
        refine wpAny_ready (rs := [3, 4]) (by kernel_rfl) (by simp) ?_
        refine AllReady.cons rfl (fun K hK => ?_) (AllReady.cons rfl (fun K hK => ?_) (AllReady.nil))
        ·skip
         refine step_app tyS encS_ok o4_55 S (fun j u hu => cell_of_box t2_55 hu) rfl rfl (by rfl) (by rfl) HB55 (by decide) hl4 ?_
         intro g56 cap56 X56 oo_56 gg_56
         refine hK _ _ ?_
         clear hK K
         have M56 := M55.app o4_55 (.inl rfl) gg_56 HB55
         have HB56 := Nat.le_trans HB55 gg_56.size
         have o5_56 := o5_55.kept gg_56 (o5_55.type_ne o4_55 (by decide))
         have t6_56 := t6_55.kept gg_56 (t6_55.not_row (by decide) o4_55)
         clear c4 c5 f4 f5
         obtain ⟨c4, c5, f4, f5⟩ := mb4 M56 x4 x5
         simp only [Act.put, List.setIfInBounds_toArray, List.set_cons_zero, List.set_cons_succ]
         refine wpAny_ready (rs := [4]) (by kernel_rfl) (by simp) (AllReady.cons rfl (fun K hK => ?_) AllReady.nil)
         go_simp
         refine hK _ _ ?_
         clear hK K
         refine wpAny_ready (rs := [7]) (by kernel_rfl) (by simp) (AllReady.cons rfl (fun K hK => ?_) AllReady.nil)
         refine step_app tyI encI_ok o5_56 (k : Int) (fun j u hu => cell_of_box t6_56 hu) rfl rfl (by rfl) (by rfl) HB56 (by decide) hl5 ?_
         intro g58 cap58 X58 oo_58 gg_58
         refine hK _ _ ?_
         clear hK K
         have M58 := M56.app o5_56 (.inr rfl) gg_58 HB56
         have HB58 := Nat.le_trans HB56 gg_58.size
         have o4_58 := oo_56.kept gg_58 (oo_56.type_ne o5_56 (by decide))
         clear c4 c5 f4 f5
         obtain ⟨c4, c5, f4, f5⟩ := mb4 M58 x4 x5
         simp only [Act.put, List.setIfInBounds_toArray, List.set_cons_zero, List.set_cons_succ]
         refine wpAny_ready (rs := [8]) (by kernel_rfl) (by simp) (AllReady.cons rfl (fun K hK => ?_) AllReady.nil)
         go_simp
         refine hK _ _ ?_
         clear hK K
         refine wpAny_ready (rs := [9]) (by kernel_rfl) (by simp) (AllReady.cons rfl (fun K hK => ?_) AllReady.nil)
         go_simp
         refine hK _ _ ?_
         clear hK K
         refine wpAny_done (by kernel_rfl) ?_ _
         exact parse_fin hI x4 x5 hte hS hps hqs M58 HB58 o4_58 oo_58
        ·skip
         go_simp
         refine hK _ _ ?_
         clear hK K
         refine wpAny_ready (rs := [3]) (by kernel_rfl) (by simp) (AllReady.cons rfl (fun K hK => ?_) AllReady.nil)
         refine step_app tyS encS_ok o4_55 S (fun j u hu => cell_of_box t2_55 hu) rfl rfl (by rfl) (by rfl) HB55 (by decide) hl4 ?_
         intro g62 cap62 X62 oo_62 gg_62
         refine hK _ _ ?_
         clear hK K
         have M62 := M55.app o4_55 (.inl rfl) gg_62 HB55
         have HB62 := Nat.le_trans HB55 gg_62.size
         have o5_62 := o5_55.kept gg_62 (o5_55.type_ne o4_55 (by decide))
         have t6_62 := t6_55.kept gg_62 (t6_55.not_row (by decide) o4_55)
         clear c4 c5 f4 f5
         obtain ⟨c4, c5, f4, f5⟩ := mb4 M62 x4 x5
         simp only [Act.put, List.setIfInBounds_toArray, List.set_cons_zero, List.set_cons_succ]
         refine wpAny_ready (rs := [7]) (by kernel_rfl) (by simp) (AllReady.cons rfl (fun K hK => ?_) AllReady.nil)
         refine step_app tyI encI_ok o5_62 (k : Int) (fun j u hu => cell_of_box t6_62 hu) rfl rfl (by rfl) (by rfl) HB62 (by decide) hl5 ?_
         intro g63 cap63 X63 oo_63 gg_63
         refine hK _ _ ?_
         clear hK K
         have M63 := M62.app o5_62 (.inr rfl) gg_63 HB62
         have HB63 := Nat.le_trans HB62 gg_63.size
         have o4_63 := oo_62.kept gg_63 (oo_62.type_ne o5_62 (by decide))
         clear c4 c5 f4 f5
         obtain ⟨c4, c5, f4, f5⟩ := mb4 M63 x4 x5
         simp only [Act.put, List.setIfInBounds_toArray, List.set_cons_zero, List.set_cons_succ]
         refine wpAny_ready (rs := [8]) (by kernel_rfl) (by simp) (AllReady.cons rfl (fun K hK => ?_) AllReady.nil)
         go_simp
         refine hK _ _ ?_
         clear hK K
         refine wpAny_ready (rs := [9]) (by kernel_rfl) (by simp) (AllReady.cons rfl (fun K hK => ?_) AllReady.nil)
         go_simp
         refine hK _ _ ?_
         clear hK K
         refine wpAny_done (by kernel_rfl) ?_ _
         exact parse_fin hI x4 x5 hte hS hps hqs M63 HB63 o4_63 oo_63
       ·skip
        go_simp
        refine hK _ _ ?_
        clear hK K
        refine wpAny_ready (rs := [2]) (by kernel_rfl) (by simp) (AllReady.cons rfl (fun K hK => ?_) AllReady.nil)
        go_simp
        refine hK _ _ ?_
        clear hK K
        have M67 := M54.alloc HB54 (.cells #[.string S] 9)
        have HB67 : w.heap.size ≤ (X54.alloc (.cells #[.string S] 9)).heap.size := by rw [World.size_alloc]; omega
        have o4_67 := o4_54.alloc (.cells #[.string S] 9)
        have o5_67 := o5_54.alloc (.cells #[.string S] 9)
        have t2_67 := Boxed.new X54 9 (.string S)
        have t6_67 := t6_54.alloc (.cells #[.string S] 9)
        clear c4 c5 f4 f5
        generalize X54.alloc (.cells #[.string S] 9) = X67 at *
        obtain ⟨c4, c5, f4, f5⟩ := mb4 M67 x4 x5
        refine wpAny_ready (rs := [3]) (by kernel_rfl) (by simp) (AllReady.cons rfl (fun K hK => ?_) AllReady.nil)
        refine step_app tyS encS_ok o4_67 S (fun j u hu => cell_of_box t2_67 hu) rfl rfl (by rfl) (by rfl) HB67 (by decide) hl4 ?_
        intro g68 cap68 X68 oo_68 gg_68
        refine hK _ _ ?_
        clear hK K
        have M68 := M67.app o4_67 (.inl rfl) gg_68 HB67
        have HB68 := Nat.le_trans HB67 gg_68.size
        have o5_68 := o5_67.kept gg_68 (o5_67.type_ne o4_67 (by decide))
        have t6_68 := t6_67.kept gg_68 (t6_67.not_row (by decide) o4_67)
        clear c4 c5 f4 f5
        obtain ⟨c4, c5, f4, f5⟩ := mb4 M68 x4 x5
        simp only [Act.put, List.setIfInBounds_toArray, List.set_cons_zero, List.set_cons_succ]
        refine wpAny_ready (rs := [7]) (by kernel_rfl) (by simp) (AllReady.cons rfl (fun K hK => ?_) AllReady.nil)
        refine step_app tyI encI_ok o5_68 (k : Int) (fun j u hu => cell_of_box t6_68 hu) rfl rfl (by rfl) (by rfl) HB68 (by decide) hl5 ?_
        intro g69 cap69 X69 oo_69 gg_69
        refine hK _ _ ?_
        clear hK K
        have M69 := M68.app o5_68 (.inr rfl) gg_69 HB68
        have HB69 := Nat.le_trans HB68 gg_69.size
        have o4_69 := oo_68.kept gg_69 (oo_68.type_ne o5_68 (by decide))
        clear c4 c5 f4 f5
        obtain ⟨c4, c5, f4, f5⟩ := mb4 M69 x4 x5
        simp only [Act.put, List.setIfInBounds_toArray, List.set_cons_zero, List.set_cons_succ]
        refine wpAny_ready (rs := [8]) (by kernel_rfl) (by simp) (AllReady.cons rfl (fun K hK => ?_) AllReady.nil)
        go_simp
        refine hK _ _ ?_
        clear hK K
        refine wpAny_ready (rs := [9]) (by kernel_rfl) (by simp) (AllReady.cons rfl (fun K hK => ?_) AllReady.nil)
        go_simp
        refine hK _ _ ?_
        clear hK K
        refine wpAny_done (by kernel_rfl) ?_ _
        exact parse_fin hI x4 x5 hte hS hps hqs M69 HB69 o4_69 oo_69
     ·skip
      go_simp
      refine hK _ _ ?_
      clear hK K
      have M72 := M0.alloc HB0 (.cells #[.string S] 9)
      have HB72 : w.heap.size ≤ (X0.alloc (.cells #[.string S] 9)).heap.size := by rw [World.size_alloc]; omega
      have o4_72 := o4_0.alloc (.cells #[.string S] 9)
      have o5_72 := o5_0.alloc (.cells #[.string S] 9)
      have t2_72 := Boxed.new X0 9 (.string S)
      clear c4 c5 f4 f5
      generalize X0.alloc (.cells #[.string S] 9) = X72 at *
      obtain ⟨c4, c5, f4, f5⟩ := mb4 M72 x4 x5
      refine wpAny_ready (rs := [0, 4, 6]) (by kernel_rfl) (by simp) ?_
      refine AllReady.cons rfl (fun K hK => ?_) (AllReady.cons rfl (fun K hK => ?_) (AllReady.cons rfl (fun K hK => ?_) (AllReady.nil)))
      ·skip
       go_simp
       refine hK _ _ ?_
       clear hK K
       refine wpAny_ready (rs := [3, 4, 6]) (by kernel_rfl) (by simp) ?_
       refine AllReady.cons rfl (fun K hK => ?_) (AllReady.cons rfl (fun K hK => ?_) (AllReady.cons rfl (fun K hK => ?_) (AllReady.nil)))
       ·skip
        refine step_app tyS encS_ok o4_72 S (fun j u hu => cell_of_box t2_72 hu) rfl rfl (by rfl) (by rfl) HB72 (by decide) hl4 ?_
        intro g74 cap74 X74 oo_74 gg_74
        refine hK _ _ ?_
        clear hK K
        have M74 := M72.app o4_72 (.inl rfl) gg_74 HB72
        have HB74 := Nat.le_trans HB72 gg_74.size
        have o5_74 := o5_72.kept gg_74 (o5_72.type_ne o4_72 (by decide))
        clear c4 c5 f4 f5
        obtain ⟨c4, c5, f4, f5⟩ := mb4 M74 x4 x5
        simp only [Act.put, List.setIfInBounds_toArray, List.set_cons_zero, List.set_cons_succ]
        refine wpAny_ready (rs := [4, 6]) (by kernel_rfl) (by simp) ?_
        refine AllReady.cons rfl (fun K hK => ?_) (AllReady.cons rfl (fun K hK => ?_) (AllReady.nil))
        ·skip
         go_simp
         refine hK _ _ ?_
         clear hK K
         refine wpAny_ready (rs := [6]) (by kernel_rfl) (by simp) (AllReady.cons rfl (fun K hK => ?_) AllReady.nil)
         go_simp
         refine hK _ _ ?_
         clear hK K
         have M76 := M74.alloc HB74 (.cells #[.int .i64 (k : Int)] 3)
         have HB76 : w.heap.size ≤ (X74.alloc (.cells #[.int .i64 (k : Int)] 3)).heap.size := by rw [World.size_alloc]; omega
         have o4_76 := oo_74.alloc (.cells #[.int .i64 (k : Int)] 3)
         have o5_76 := o5_74.alloc (.cells #[.int .i64 (k : Int)] 3)
         have t6_76 := Boxed.new X74 3 (.int .i64 (k : Int))
         have t2_76 := t2_72.alloc (.cells #[.int .i64 (k : Int)] 3)
         clear c4 c5 f4 f5
         generalize X74.alloc (.cells #[.int .i64 (k : Int)] 3) = X76 at *
         obtain ⟨c4, c5, f4, f5⟩ := mb4 M76 x4 x5
         refine wpAny_ready (rs := [7]) (by kernel_rfl) (by simp) (AllReady.cons rfl (fun K hK => ?_) AllReady.nil)
         refine step_app tyI encI_ok o5_76 (k : Int) (fun j u hu => cell_of_box t6_76 hu) rfl rfl (by rfl) (by rfl) HB76 (by decide) hl5 ?_
         intro g77 cap77 X77 oo_77 gg_77
         refine hK _ _ ?_
         clear hK K
         have M77 := M76.app o5_76 (.inr rfl) gg_77 HB76
         have HB77 := Nat.le_trans HB76 gg_77.size
         have o4_77 := o4_76.kept gg_77 (o4_76.type_ne o5_76 (by decide))
         clear c4 c5 f4 f5
         obtain ⟨c4, c5, f4, f5⟩ := mb4 M77 x4 x5
         simp only [Act.put, List.setIfInBounds_toArray, List.set_cons_zero, List.set_cons_succ]
         refine wpAny_ready (rs := [8]) (by kernel_rfl) (by simp) (AllReady.cons rfl (fun K hK => ?_) AllReady.nil)
         go_simp
         refine hK _ _ ?_
         clear hK K
         refine wpAny_ready (rs := [9]) (by kernel_rfl) (by simp) (AllReady.cons rfl (fun K hK => ?_) AllReady.nil)
         go_simp
         refine hK _ _ ?_
         clear hK K
         refine wpAny_done (by kernel_rfl) ?_ _
         exact parse_fin hI x4 x5 hte hS hps hqs M77 HB77 o4_77 oo_77
        ·skip
         go_simp
         refine hK _ _ ?_
         clear hK K
         have M80 := M74.alloc HB74 (.cells #[.int .i64 (k : Int)] 3)
         have HB80 : w.heap.size ≤ (X74.alloc (.cells #[.int .i64 (k : Int)] 3)).heap.size := by rw [World.size_alloc]; omega
         have o4_80 := oo_74.alloc (.cells #[.int .i64 (k : Int)] 3)
         have o5_80 := o5_74.alloc (.cells #[.int .i64 (k : Int)] 3)
         have t6_80 := Boxed.new X74 3 (.int .i64 (k : Int))
         have t2_80 := t2_72.alloc (.cells #[.int .i64 (k : Int)] 3)
         clear c4 c5 f4 f5
         generalize X74.alloc (.cells #[.int .i64 (k : Int)] 3) = X80 at *
         obtain ⟨c4, c5, f4, f5⟩ := mb4 M80 x4 x5
         refine wpAny_ready (rs := [4]) (by kernel_rfl) (by simp) (AllReady.cons rfl (fun K hK => ?_) AllReady.nil)
         go_simp
         refine hK _ _ ?_
         clear hK K
         refine wpAny_ready (rs := [7]) (by kernel_rfl) (by simp) (AllReady.cons rfl (fun K hK => ?_) AllReady.nil)
         refine step_app tyI encI_ok o5_80 (k : Int) (fun j u hu => cell_of_box t6_80 hu) rfl rfl (by rfl) (by rfl) HB80 (by decide) hl5 ?_
         intro g82 cap82 X82 oo_82 gg_82
         refine hK _ _ ?_
         clear hK K
         have M82 := M80.app o5_80 (.inr rfl) gg_82 HB80
         have HB82 := Nat.le_trans HB80 gg_82.size
         have o4_82 := o4_80.kept gg_82 (o4_80.type_ne o5_80 (by decide))
         clear c4 c5 f4 f5
         obtain ⟨c4, c5, f4, f5⟩ := mb4 M82 x4 x5
         simp only [Act.put, List.setIfInBounds_toArray, List.set_cons_zero, List.set_cons_succ]
         refine wpAny_ready (rs := [8]) (by kernel_rfl) (by simp) (AllReady.cons rfl (fun K hK => ?_) AllReady.nil)
         go_simp
         refine hK _ _ ?_
         clear hK K
         refine wpAny_ready (rs := [9]) (by kernel_rfl) (by simp) (AllReady.cons rfl (fun K hK => ?_) AllReady.nil)
         go_simp
         refine hK _ _ ?_
         clear hK K
         refine wpAny_done (by kernel_rfl) ?_ _
         exact parse_fin hI x4 x5 hte hS hps hqs M82 HB82 o4_82 oo_82
       ·skip
        go_simp
        refine hK _ _ ?_
        clear hK K
        refine wpAny_ready (rs := [3, 6]) (by kernel_rfl) (by simp) ?_
        refine AllReady.cons rfl (fun K hK => ?_) (AllReady.cons rfl (fun K hK => ?_) (AllReady.nil))
        ·skip
         refine step_app tyS encS_ok o4_72 S (fun j u hu => cell_of_box t2_72 hu) rfl rfl (by rfl) (by rfl) HB72 (by decide) hl4 ?_
         intro g86 cap86 X86 oo_86 gg_86
         refine hK _ _ ?_
         clear hK K
         have M86 := M72.app o4_72 (.inl rfl) gg_86 HB72
         have HB86 := Nat.le_trans HB72 gg_86.size
         have o5_86 := o5_72.kept gg_86 (o5_72.type_ne o4_72 (by decide))
         clear c4 c5 f4 f5
         obtain ⟨c4, c5, f4, f5⟩ := mb4 M86 x4 x5
         simp only [Act.put, List.setIfInBounds_toArray, List.set_cons_zero, List.set_cons_succ]
         refine wpAny_ready (rs := [6]) (by kernel_rfl) (by simp) (AllReady.cons rfl (fun K hK => ?_) AllReady.nil)
         go_simp
         refine hK _ _ ?_
         clear hK K
         have M87 := M86.alloc HB86 (.cells #[.int .i64 (k : Int)] 3)
         have HB87 : w.heap.size ≤ (X86.alloc (.cells #[.int .i64 (k : Int)] 3)).heap.size := by rw [World.size_alloc]; omega
         have o4_87 := oo_86.alloc (.cells #[.int .i64 (k : Int)] 3)
         have o5_87 := o5_86.alloc (.cells #[.int .i64 (k : Int)] 3)
         have t6_87 := Boxed.new X86 3 (.int .i64 (k : Int))
         have t2_87 := t2_72.alloc (.cells #[.int .i64 (k : Int)] 3)
         clear c4 c5 f4 f5
         generalize X86.alloc (.cells #[.int .i64 (k : Int)] 3) = X87 at *
         obtain ⟨c4, c5, f4, f5⟩ := mb4 M87 x4 x5
         refine wpAny_ready (rs := [7]) (by kernel_rfl) (by simp) (AllReady.cons rfl (fun K hK => ?_) AllReady.nil)
         refine step_app tyI encI_ok o5_87 (k : Int) (fun j u hu => cell_of_box t6_87 hu) rfl rfl (by rfl) (by rfl) HB87 (by decide) hl5 ?_
         intro g88 cap88 X88 oo_88 gg_88
         refine hK _ _ ?_
         clear hK K
         have M88 := M87.app o5_87 (.inr rfl) gg_88 HB87
         have HB88 := Nat.le_trans HB87 gg_88.size
         have o4_88 := o4_87.kept gg_88 (o4_87.type_ne o5_87 (by decide))
         clear c4 c5 f4 f5
         obtain ⟨c4, c5, f4, f5⟩ := mb4 M88 x4 x5
         simp only [Act.put, List.setIfInBounds_toArray, List.set_cons_zero, List.set_cons_succ]
         refine wpAny_ready (rs := [8]) (by kernel_rfl) (by simp) (AllReady.cons rfl (fun K hK => ?_) AllReady.nil)
         go_simp
         refine hK _ _ ?_
         clear hK K
         refine wpAny_ready (rs := [9]) (by kernel_rfl) (by simp) (AllReady.cons rfl (fun K hK => ?_) AllReady.nil)
         go_simp
         refine hK _ _ ?_
         clear hK K
         refine wpAny_done (by kernel_rfl) ?_ _
         exact parse_fin hI x4 x5 hte hS hps hqs M88 HB88 o4_88 oo_88
        ·skip
         go_simp
         refine hK _ _ ?_
         clear hK K
         have M91 := M72.alloc HB72 (.cells #[.int .i64 (k : Int)] 3)
         have HB91 : w.heap.size ≤ (X72.alloc (.cells #[.int .i64 (k : Int)] 3)).heap.size := by rw [World.size_alloc]; omega
         have o4_91 := o4_72.alloc (.cells #[.int .i64 (k : Int)] 3)
         have o5_91 := o5_72.alloc (.cells #[.int .i64 (k : Int)] 3)
         have t6_91 := Boxed.new X72 3 (.int .i64 (k : Int))
         have t2_91 := t2_72.alloc (.cells #[.int .i64 (k : Int)] 3)
         clear c4 c5 f4 f5
         generalize X72.alloc (.cells #[.int .i64 (k : Int)] 3) = X91 at *
         obtain ⟨c4, c5, f4, f5⟩ := mb4 M91 x4 x5
         refine wpAny_ready (rs := [3]) (by kernel_rfl) (by simp) (AllReady.cons rfl (fun K hK => ?_) AllReady.nil)
         refine step_app tyS encS_ok o4_91 S (fun j u hu => cell_of_box t2_91 hu) rfl rfl (by rfl) (by rfl) HB91 (by decide) hl4 ?_
         intro g92 cap92 X92 oo_92 gg_92
         refine hK _ _ ?_
         clear hK K
         have M92 := M91.app o4_91 (.inl rfl) gg_92 HB91
         have HB92 := Nat.le_trans HB91 gg_92.size
         have o5_92 := o5_91.kept gg_92 (o5_91.type_ne o4_91 (by decide))
         have t6_92 := t6_91.kept gg_92 (t6_91.not_row (by decide) o4_91)
         clear c4 c5 f4 f5
         obtain ⟨c4, c5, f4, f5⟩ := mb4 M92 x4 x5
         simp only [Act.put, List.setIfInBounds_toArray, List.set_cons_zero, List.set_cons_succ]
         refine wpAny_ready (rs := [7]) (by kernel_rfl) (by simp) (AllReady.cons rfl (fun K hK => ?_) AllReady.nil)
         refine step_app tyI encI_ok o5_92 (k : Int) (fun j u hu => cell_of_box t6_92 hu) rfl rfl (by rfl) (by rfl) HB92 (by decide) hl5 ?_
         intro g93 cap93 X93 oo_93 gg_93
         refine hK _ _ ?_
         clear hK K
         have M93 := M92.app o5_92 (.inr rfl) gg_93 HB92
         have HB93 := Nat.le_trans HB92 gg_93.size
         have o4_93 := oo_92.kept gg_93 (oo_92.type_ne o5_92 (by decide))
         clear c4 c5 f4 f5
         obtain ⟨c4, c5, f4, f5⟩ := mb4 M93 x4 x5
         simp only [Act.put, List.setIfInBounds_toArray, List.set_cons_zero, List.set_cons_succ]
         refine wpAny_ready (rs := [8]) (by kernel_rfl) (by simp) (AllReady.cons rfl (fun K hK => ?_) AllReady.nil)
         go_simp
         refine hK _ _ ?_
         clear hK K
         refine wpAny_ready (rs := [9]) (by kernel_rfl) (by simp) (AllReady.cons rfl (fun K hK => ?_) AllReady.nil)
         go_simp
         refine hK _ _ ?_
         clear hK K
         refine wpAny_done (by kernel_rfl) ?_ _
         exact parse_fin hI x4 x5 hte hS hps hqs M93 HB93 o4_93 oo_93
       ·skip
        go_simp
        refine hK _ _ ?_
        clear hK K
        have M96 := M72.alloc HB72 (.cells #[.int .i64 (k : Int)] 3)
        have HB96 : w.heap.size ≤ (X72.alloc (.cells #[.int .i64 (k : Int)] 3)).heap.size := by rw [World.size_alloc]; omega
        have o4_96 := o4_72.alloc (.cells #[.int .i64 (k : Int)] 3)
        have o5_96 := o5_72.alloc (.cells #[.int .i64 (k : Int)] 3)
        have t6_96 := Boxed.new X72 3 (.int .i64 (k : Int))
        have t2_96 := t2_72.alloc (.cells #[.int .i64 (k : Int)] 3)
        clear c4 c5 f4 f5
        generalize X72.alloc (.cells #[.int .i64 (k : Int)] 3) = X96 at *
        obtain ⟨c4, c5, f4, f5⟩ := mb4 M96 x4 x5
        refine wpAny_ready (rs := [3, 4]) (by kernel_rfl) (by simp) ?_
        refine AllReady.cons rfl (fun K hK => ?_) (AllReady.cons rfl (fun K hK => ?_) (AllReady.nil))
        ·skip
         refine step_app tyS encS_ok o4_96 S (fun j u hu => cell_of_box t2_96 hu) rfl rfl (by rfl) (by rfl) HB96 (by decide) hl4 ?_
         intro g97 cap97 X97 oo_97 gg_97
         refine hK _ _ ?_
         clear hK K
         have M97 := M96.app o4_96 (.inl rfl) gg_97 HB96
         have HB97 := Nat.le_trans HB96 gg_97.size
         have o5_97 := o5_96.kept gg_97 (o5_96.type_ne o4_96 (by decide))
         have t6_97 := t6_96.kept gg_97 (t6_96.not_row (by decide) o4_96)
         clear c4 c5 f4 f5
         obtain ⟨c4, c5, f4, f5⟩ := mb4 M97 x4 x5
         simp only [Act.put, List.setIfInBounds_toArray, List.set_cons_zero, List.set_cons_succ]
         refine wpAny_ready (rs := [4]) (by kernel_rfl) (by simp) (AllReady.cons rfl (fun K hK => ?_) AllReady.nil)
         go_simp
         refine hK _ _ ?_
         clear hK K
         refine wpAny_ready (rs := [7]) (by kernel_rfl) (by simp) (AllReady.cons rfl (fun K hK => ?_) AllReady.nil)
         refine step_app tyI encI_ok o5_97 (k : Int) (fun j u hu => cell_of_box t6_97 hu) rfl rfl (by rfl) (by rfl) HB97 (by decide) hl5 ?_
         intro g99 cap99 X99 oo_99 gg_99
         refine hK _ _ ?_
         clear hK K
         have M99 := M97.app o5_97 (.inr rfl) gg_99 HB97
         have HB99 := Nat.le_trans HB97 gg_99.size
         have o4_99 := oo_97.kept gg_99 (oo_97.type_ne o5_97 (by decide))
         clear c4 c5 f4 f5
         obtain ⟨c4, c5, f4, f5⟩ := mb4 M99 x4 x5
         simp only [Act.put, List.setIfInBounds_toArray, List.set_cons_zero, List.set_cons_succ]
         refine wpAny_ready (rs := [8]) (by kernel_rfl) (by simp) (AllReady.cons rfl (fun K hK => ?_) AllReady.nil)
         go_simp
         refine hK _ _ ?_
         clear hK K
         refine wpAny_ready (rs := [9]) (by kernel_rfl) (by simp) (AllReady.cons rfl (fun K hK => ?_) AllReady.nil)
         go_simp
         refine hK _ _ ?_
         clear hK K
         refine wpAny_done (by kernel_rfl) ?_ _
         exact parse_fin hI x4 x5 hte hS hps hqs M99 HB99 o4_99 oo_99
        ·skip
         go_simp
         refine hK _ _ ?_
         clear hK K
         refine wpAny_ready (rs := [3]) (by kernel_rfl) (by simp) (AllReady.cons rfl (fun K hK => ?_) AllReady.nil)
         refine step_app tyS encS_ok o4_96 S (fun j u hu => cell_of_box t2_96 hu) rfl rfl (by rfl) (by rfl) HB96 (by decide) hl4 ?_
         intro g103 cap103 X103 oo_103 gg_103
         refine hK _ _ ?_
         clear hK K
         have M103 := M96.app o4_96 (.inl rfl) gg_103 HB96
         have HB103 := Nat.le_trans HB96 gg_103.size
         have o5_103 := o5_96.kept gg_103 (o5_96.type_ne o4_96 (by decide))
         have t6_103 := t6_96.kept gg_103 (t6_96.not_row (by decide) o4_96)
         clear c4 c5 f4 f5
         obtain ⟨c4, c5, f4, f5⟩ := mb4 M103 x4 x5
         simp only [Act.put, List.setIfInBounds_toArray, List.set_cons_zero, List.set_cons_succ]
         refine wpAny_ready (rs := [7]) (by kernel_rfl) (by simp) (AllReady.cons rfl (fun K hK => ?_) AllReady.nil)
         refine step_app tyI encI_ok o5_103 (k : Int) (fun j u hu => cell_of_box t6_103 hu) rfl rfl (by rfl) (by rfl) HB103 (by decide) hl5 ?_
         intro g104 cap104 X104 oo_104 gg_104
         refine hK _ _ ?_
         clear hK K
         have M104 := M103.app o5_103 (.inr rfl) gg_104 HB103
         have HB104 := Nat.le_trans HB103 gg_104.size
         have o4_104 := oo_103.kept gg_104 (oo_103.type_ne o5_103 (by decide))
         clear c4 c5 f4 f5
         obtain ⟨c4, c5, f4, f5⟩ := mb4 M104 x4 x5
         simp only [Act.put, List.setIfInBounds_toArray, List.set_cons_zero, List.set_cons_succ]
         refine wpAny_ready (rs := [8]) (by kernel_rfl) (by simp) (AllReady.cons rfl (fun K hK => ?_) AllReady.nil)
         go_simp
         refine hK _ _ ?_
         clear hK K
         refine wpAny_ready (rs := [9]) (by kernel_rfl) (by simp) (AllReady.cons rfl (fun K hK => ?_) AllReady.nil)
         go_simp
         refine hK _ _ ?_
         clear hK K
         refine wpAny_done (by kernel_rfl) ?_ _
         exact parse_fin hI x4 x5 hte hS hps hqs M104 HB104 o4_104 oo_104
      ·skip
       go_simp
       refine hK _ _ ?_
       clear hK K
       refine wpAny_ready (rs := [0, 6]) (by kernel_rfl) (by simp) ?_
       refine AllReady.cons rfl (fun K hK => ?_) (AllReady.cons rfl (fun K hK => ?_) (AllReady.nil))
       ·skip
        go_simp
        refine hK _ _ ?_
        clear hK K
        refine wpAny_ready (rs := [3, 6]) (by kernel_rfl) (by simp) ?_
        refine AllReady.cons rfl (fun K hK => ?_) (AllReady.cons rfl (fun K hK => ?_) (AllReady.nil))
        ·skip
         refine step_app tyS encS_ok o4_72 S (fun j u hu => cell_of_box t2_72 hu) rfl rfl (by rfl) (by rfl) HB72 (by decide) hl4 ?_
         intro g109 cap109 X109 oo_109 gg_109
         refine hK _ _ ?_
         clear hK K
         have M109 := M72.app o4_72 (.inl rfl) gg_109 HB72
         have HB109 := Nat.le_trans HB72 gg_109.size
         have o5_109 := o5_72.kept gg_109 (o5_72.type_ne o4_72 (by decide))
         clear c4 c5 f4 f5
         obtain ⟨c4, c5, f4, f5⟩ := mb4 M109 x4 x5
         simp only [Act.put, List.setIfInBounds_toArray, List.set_cons_zero, List.set_cons_succ]
         refine wpAny_ready (rs := [6]) (by kernel_rfl) (by simp) (AllReady.cons rfl (fun K hK => ?_) AllReady.nil)
         go_simp
         refine hK _ _ ?_
         clear hK K
         have M110 := M109.alloc HB109 (.cells #[.int .i64 (k : Int)] 3)
         have HB110 : w.heap.size ≤ (X109.alloc (.cells #[.int .i64 (k : Int)] 3)).heap.size := by rw [World.size_alloc]; omega
         have o4_110 := oo_109.alloc (.cells #[.int .i64 (k : Int)] 3)
         have o5_110 := o5_109.alloc (.cells #[.int .i64 (k : Int)] 3)
         have t6_110 := Boxed.new X109 3 (.int .i64 (k : Int))
         have t2_110 := t2_72.alloc (.cells #[.int .i64 (k : Int)] 3)
         clear c4 c5 f4 f5
         generalize X109.alloc (.cells #[.int .i64 (k : Int)] 3) = X110 at *
         obtain ⟨c4, c5, f4, f5⟩ := mb4 M110 x4 x5
         refine wpAny_ready (rs := [7]) (by kernel_rfl) (by simp) (AllReady.cons rfl (fun K hK => ?_) AllReady.nil)
         refine step_app tyI encI_ok o5_110 (k : Int) (fun j u hu => cell_of_box t6_110 hu) rfl rfl (by rfl) (by rfl) HB110 (by decide) hl5 ?_
         intro g111 cap111 X111 oo_111 gg_111
         refine hK _ _ ?_
         clear hK K
         have M111 := M110.app o5_110 (.inr rfl) gg_111 HB110
         have HB111 := Nat.le_trans HB110 gg_111.size
         have o4_111 := o4_110.kept gg_111 (o4_110.type_ne o5_110 (by decide))
         clear c4 c5 f4 f5
         obtain ⟨c4, c5, f4, f5⟩ := mb4 M111 x4 x5
         simp only [Act.put, List.setIfInBounds_toArray, List.set_cons_zero, List.set_cons_succ]
         refine wpAny_ready (rs := [8]) (by kernel_rfl) (by simp) (AllReady.cons rfl (fun K hK => ?_) AllReady.nil)
         go_simp
         refine hK _ _ ?_
         clear hK K
         refine wpAny_ready (rs := [9]) (by kernel_rfl) (by simp) (AllReady.cons rfl (fun K hK => ?_) AllReady.nil)
         go_simp
         refine hK _ _ ?_
         clear hK K
         refine wpAny_done (by kernel_rfl) ?_ _
         exact parse_fin hI x4 x5 hte hS hps hqs M111 HB111 o4_111 oo_111
        ·skip
         go_simp
         refine hK _ _ ?_
         clear hK K
         have M114 := M72.alloc HB72 (.cells #[.int .i64 (k : Int)] 3)
         have HB114 : w.heap.size ≤ (X72.alloc (.cells #[.int .i64 (k : Int)] 3)).heap.size := by rw [World.size_alloc]; omega
         have o4_114 := o4_72.alloc (.cells #[.int .i64 (k : Int)] 3)
         have o5_114 := o5_72.alloc (.cells #[.int .i64 (k : Int)] 3)
         have t6_114 := Boxed.new X72 3 (.int .i64 (k : Int))
         have t2_114 := t2_72.alloc (.cells #[.int .i64 (k : Int)] 3)
         clear c4 c5 f4 f5
         generalize X72.alloc (.cells #[.int .i64 (k : Int)] 3) = X114 at *
         obtain ⟨c4, c5, f4, f5⟩ := mb4 M114 x4 x5
         refine wpAny_ready (rs := [3]) (by kernel_rfl) (by simp) (AllReady.cons rfl (fun K hK => ?_) AllReady.nil)
         refine step_app tyS encS_ok o4_114 S (fun j u hu => cell_of_box t2_114 hu) rfl rfl (by rfl) (by rfl) HB114 (by decide) hl4 ?_
         intro g115 cap115 X115 oo_115 gg_115
         refine hK _ _ ?_
         clear hK K
         have M115 := M114.app o4_114 (.inl rfl) gg_115 HB114
         have HB115 := Nat.le_trans HB114 gg_115.size
         have o5_115 := o5_114.kept gg_115 (o5_114.type_ne o4_114 (by decide))
         have t6_115 := t6_114.kept gg_115 (t6_114.not_row (by decide) o4_114)
         clear c4 c5 f4 f5
         obtain ⟨c4, c5, f4, f5⟩ := mb4 M115 x4 x5
         simp only [Act.put, List.setIfInBounds_toArray, List.set_cons_zero, List.set_cons_succ]
         refine wpAny_ready (rs := [7]) (by kernel_rfl) (by simp) (AllReady.cons rfl (fun K hK => ?_) AllReady.nil)
         refine step_app tyI encI_ok o5_115 (k : Int) (fun j u hu => cell_of_box t6_115 hu) rfl rfl (by rfl) (by rfl) HB115 (by decide) hl5 ?_
         intro g116 cap116 X116 oo_116 gg_116
         refine hK _ _ ?_
         clear hK K
         have M116 := M115.app o5_115 (.inr rfl) gg_116 HB115
         have HB116 := Nat.le_trans HB115 gg_116.size
         have o4_116 := oo_115.kept gg_116 (oo_115.type_ne o5_115 (by decide))
         clear c4 c5 f4 f5
         obtain ⟨c4, c5, f4, f5⟩ := mb4 M116 x4 x5
         simp only [Act.put, List.setIfInBounds_toArray, List.set_cons_zero, List.set_cons_succ]
         refine wpAny_ready (rs := [8]) (by kernel_rfl) (by simp) (AllReady.cons rfl (fun K hK => ?_) AllReady.nil)
         go_simp
         refine hK _ _ ?_
         clear hK K
         refine wpAny_ready (rs := [9]) (by kernel_rfl) (by simp) (AllReady.cons rfl (fun K hK => ?_) AllReady.nil)
         go_simp
         refine hK _ _ ?_
         clear hK K
         refine wpAny_done (by kernel_rfl) ?_ _
         exact parse_fin hI x4 x5 hte hS hps hqs M116 HB116 o4_116 oo_116
       ·skip
        go_simp
        refine hK _ _ ?_
        clear hK K
        have M119 := M72.alloc HB72 (.cells #[.int .i64 (k : Int)] 3)
        have HB119 : w.heap.size ≤ (X72.alloc (.cells #[.int .i64 (k : Int)] 3)).heap.size := by rw [World.size_alloc]; omega
        have o4_119 := o4_72.alloc (.cells #[.int .i64 (k : Int)] 3)
        have o5_119 := o5_72.alloc (.cells #[.int .i64 (k : Int)] 3)
        have t6_119 := Boxed.new X72 3 (.int .i64 (k : Int))
        have t2_119 := t2_72.alloc (.cells #[.int .i64 (k : Int)] 3)
        clear c4 c5 f4 f5
        generalize X72.alloc (.cells #[.int .i64 (k : Int)] 3) = X119 at *
        obtain ⟨c4, c5, f4, f5⟩ := mb4 M119 x4 x5
        refine wpAny_ready (rs := [0]) (by kernel_rfl) (by simp) (AllReady.cons rfl (fun K hK => ?_) AllReady.nil)
        go_simp
        refine hK _ _ ?_
        clear hK K
        refine wpAny_ready (rs := [3]) (by kernel_rfl) (by simp) (AllReady.cons rfl (fun K hK => ?_) AllReady.nil)
        refine step_app tyS encS_ok o4_119 S (fun j u hu => cell_of_box t2_119 hu) rfl rfl (by rfl) (by rfl) HB119 (by decide) hl4 ?_
        intro g121 cap121 X121 oo_121 gg_121
        refine hK _ _ ?_
        clear hK K
        have M121 := M119.app o4_119 (.inl rfl) gg_121 HB119
        have HB121 := Nat.le_trans HB119 gg_121.size
        have o5_121 := o5_119.kept gg_121 (o5_119.type_ne o4_119 (by decide))
        have t6_121 := t6_119.kept gg_121 (t6_119.not_row (by decide) o4_119)
        clear c4 c5 f4 f5
        obtain ⟨c4, c5, f4, f5⟩ := mb4 M121 x4 x5
        simp only [Act.put, List.setIfInBounds_toArray, List.set_cons_zero, List.set_cons_succ]
        refine wpAny_ready (rs := [7]) (by kernel_rfl) (by simp) (AllReady.cons rfl (fun K hK => ?_) AllReady.nil)
        refine step_app tyI encI_ok o5_121 (k : Int) (fun j u hu => cell_of_box t6_121 hu) rfl rfl (by rfl) (by rfl) HB121 (by decide) hl5 ?_
        intro g122 cap122 X122 oo_122 gg_122
        refine hK _ _ ?_
        clear hK K
        have M122 := M121.app o5_121 (.inr rfl) gg_122 HB121
        have HB122 := Nat.le_trans HB121 gg_122.size
        have o4_122 := oo_121.kept gg_122 (oo_121.type_ne o5_121 (by decide))
        clear c4 c5 f4 f5
        obtain ⟨c4, c5, f4, f5⟩ := mb4 M122 x4 x5
        simp only [Act.put, List.setIfInBounds_toArray, List.set_cons_zero, List.set_cons_succ]
        refine wpAny_ready (rs := [8]) (by kernel_rfl) (by simp) (AllReady.cons rfl (fun K hK => ?_) AllReady.nil)
        go_simp
        refine hK _ _ ?_
        clear hK K
        refine wpAny_ready (rs := [9]) (by kernel_rfl) (by simp) (AllReady.cons rfl (fun K hK => ?_) AllReady.nil)
        go_simp
        refine hK _ _ ?_
        clear hK K
        refine wpAny_done (by kernel_rfl) ?_ _
        exact parse_fin hI x4 x5 hte hS hps hqs M122 HB122 o4_122 oo_122
      ·skip
       go_simp
       refine hK _ _ ?_
       clear hK K
       have M125 := M72.alloc HB72 (.cells #[.int .i64 (k : Int)] 3)
       have HB125 : w.heap.size ≤ (X72.alloc (.cells #[.int .i64 (k : Int)] 3)).heap.size := by rw [World.size_alloc]; omega
       have o4_125 := o4_72.alloc (.cells #[.int .i64 (k : Int)] 3)
       have o5_125 := o5_72.alloc (.cells #[.int .i64 (k : Int)] 3)
       have t6_125 := Boxed.new X72 3 (.int .i64 (k : Int))
       have t2_125 := t2_72.alloc (.cells #[.int .i64 (k : Int)] 3)
       clear c4 c5 f4 f5
       generalize X72.alloc (.cells #[.int .i64 (k : Int)] 3) = X125 at *
       obtain ⟨c4, c5, f4, f5⟩ := mb4 M125 x4 x5
       refine wpAny_ready (rs := [0, 4]) (by kernel_rfl) (by simp) ?_
       refine AllReady.cons rfl (fun K hK => ?_) (AllReady.cons rfl (fun K hK => ?_) (AllReady.nil))
       ·skip
        go_simp
        refine hK _ _ ?_
        clear hK K
        refine wpAny_ready (rs := [3, 4]) (by kernel_rfl) (by simp) ?_
        refine AllReady.cons rfl (fun K hK => ?_) (AllReady.cons rfl (fun K hK => ?_) (AllReady.nil))
        ·skip
         refine step_app tyS encS_ok o4_125 S (fun j u hu => cell_of_box t2_125 hu) rfl rfl (by rfl) (by rfl) HB125 (by decide) hl4 ?_
         intro g127 cap127 X127 oo_127 gg_127
         refine hK _ _ ?_
         clear hK K
         have M127 := M125.app o4_125 (.inl rfl) gg_127 HB125
         have HB127 := Nat.le_trans HB125 gg_127.size
         have o5_127 := o5_125.kept gg_127 (o5_125.type_ne o4_125 (by decide))
         have t6_127 := t6_125.kept gg_127 (t6_125.not_row (by decide) o4_125)
         clear c4 c5 f4 f5
         obtain ⟨c4, c5, f4, f5⟩ := mb4 M127 x4 x5
         simp only [Act.put, List.setIfInBounds_toArray, List.set_cons_zero, List.set_cons_succ]
         refine wpAny_ready (rs := [4]) (by kernel_rfl) (by simp) (AllReady.cons rfl (fun K hK => ?_) AllReady.nil)
         go_simp
         refine hK _ _ ?_
         clear hK K
         refine wpAny_ready (rs := [7]) (by kernel_rfl) (by simp) (AllReady.cons rfl (fun K hK => ?_) AllReady.nil)
         refine step_app tyI encI_ok o5_127 (k : Int) (fun j u hu => cell_of_box t6_127 hu) rfl rfl (by rfl) (by rfl) HB127 (by decide) hl5 ?_
         intro g129 cap129 X129 oo_129 gg_129
         refine hK _ _ ?_
         clear hK K
         have M129 := M127.app o5_127 (.inr rfl) gg_129 HB127
         have HB129 := Nat.le_trans HB127 gg_129.size
         have o4_129 := oo_127.kept gg_129 (oo_127.type_ne o5_127 (by decide))
         clear c4 c5 f4 f5
         obtain ⟨c4, c5, f4, f5⟩ := mb4 M129 x4 x5
         simp only [Act.put, List.setIfInBounds_toArray, List.set_cons_zero, List.set_cons_succ]
         refine wpAny_ready (rs := [8]) (by kernel_rfl) (by simp) (AllReady.cons rfl (fun K hK => ?_) AllReady.nil)
         go_simp
         refine hK _ _ ?_
         clear hK K
         refine wpAny_ready (rs := [9]) (by kernel_rfl) (by simp) (AllReady.cons rfl (fun K hK => ?_) AllReady.nil)
         go_simp
         refine hK _ _ ?_
         clear hK K
         refine wpAny_done (by kernel_rfl) ?_ _
         exact parse_fin hI x4 x5 hte hS hps hqs M129 HB129 o4_129 oo_129
        ·skip
         go_simp
         refine hK _ _ ?_
         clear hK K
         refine wpAny_ready (rs := [3]) (by kernel_rfl) (by simp) (AllReady.cons rfl (fun K hK => ?_) AllReady.nil)
         refine step_app tyS encS_ok o4_125 S (fun j u hu => cell_of_box t2_125 hu) rfl rfl (by rfl) (by rfl) HB125 (by decide) hl4 ?_
         intro g133 cap133 X133 oo_133 gg_133
         refine hK _ _ ?_
         clear hK K
         have M133 := M125.app o4_125 (.inl rfl) gg_133 HB125
         have HB133 := Nat.le_trans HB125 gg_133.size
         have o5_133 := o5_125.kept gg_133 (o5_125.type_ne o4_125 (by decide))
         have t6_133 := t6_125.kept gg_133 (t6_125.not_row (by decide) o4_125)
         clear c4 c5 f4 f5
         obtain ⟨c4, c5, f4, f5⟩ := mb4 M133 x4 x5
         simp only [Act.put, List.setIfInBounds_toArray, List.set_cons_zero, List.set_cons_succ]
         refine wpAny_ready (rs := [7]) (by kernel_rfl) (by simp) (AllReady.cons rfl (fun K hK => ?_) AllReady.nil)
         refine step_app tyI encI_ok o5_133 (k : Int) (fun j u hu => cell_of_box t6_133 hu) rfl rfl (by rfl) (by rfl) HB133 (by decide) hl5 ?_
         intro g134 cap134 X134 oo_134 gg_134
         refine hK _ _ ?_
         clear hK K
         have M134 := M133.app o5_133 (.inr rfl) gg_134 HB133
         have HB134 := Nat.le_trans HB133 gg_134.size
         have o4_134 := oo_133.kept gg_134 (oo_133.type_ne o5_133 (by decide))
         clear c4 c5 f4 f5
         obtain ⟨c4, c5, f4, f5⟩ := mb4 M134 x4 x5
         simp only [Act.put, List.setIfInBounds_toArray, List.set_cons_zero, List.set_cons_succ]
         refine wpAny_ready (rs := [8]) (by kernel_rfl) (by simp) (AllReady.cons rfl (fun K hK => ?_) AllReady.nil)
         go_simp
         refine hK _ _ ?_
         clear hK K
         refine wpAny_ready (rs := [9]) (by kernel_rfl) (by simp) (AllReady.cons rfl (fun K hK => ?_) AllReady.nil)
         go_simp
         refine hK _ _ ?_
         clear hK K
         refine wpAny_done (by kernel_rfl) ?_ _
         exact parse_fin hI x4 x5 hte hS hps hqs M134 HB134 o4_134 oo_134
       ·skip
        go_simp
        refine hK _ _ ?_
        clear hK K
        refine wpAny_ready (rs := [0]) (by kernel_rfl) (by simp) (AllReady.cons rfl (fun K hK => ?_) AllReady.nil)
        go_simp
        refine hK _ _ ?_
        clear hK K
        refine wpAny_ready (rs := [3]) (by kernel_rfl) (by simp) (AllReady.cons rfl (fun K hK => ?_) AllReady.nil)
        refine step_app tyS encS_ok o4_125 S (fun j u hu => cell_of_box t2_125 hu) rfl rfl (by rfl) (by rfl) HB125 (by decide) hl4 ?_
        intro g139 cap139 X139 oo_139 gg_139
        refine hK _ _ ?_
        clear hK K
        have M139 := M125.app o4_125 (.inl rfl) gg_139 HB125
        have HB139 := Nat.le_trans HB125 gg_139.size
        have o5_139 := o5_125.kept gg_139 (o5_125.type_ne o4_125 (by decide))
        have t6_139 := t6_125.kept gg_139 (t6_125.not_row (by decide) o4_125)
        clear c4 c5 f4 f5
        obtain ⟨c4, c5, f4, f5⟩ := mb4 M139 x4 x5
        simp only [Act.put, List.setIfInBounds_toArray, List.set_cons_zero, List.set_cons_succ]
        refine wpAny_ready (rs := [7]) (by kernel_rfl) (by simp) (AllReady.cons rfl (fun K hK => ?_) AllReady.nil)
        refine step_app tyI encI_ok o5_139 (k : Int) (fun j u hu => cell_of_box t6_139 hu) rfl rfl (by rfl) (by rfl) HB139 (by decide) hl5 ?_
        intro g140 cap140 X140 oo_140 gg_140
        refine hK _ _ ?_
        clear hK K
        have M140 := M139.app o5_139 (.inr rfl) gg_140 HB139
        have HB140 := Nat.le_trans HB139 gg_140.size
        have o4_140 := oo_139.kept gg_140 (oo_139.type_ne o5_139 (by decide))
        clear c4 c5 f4 f5
        obtain ⟨c4, c5, f4, f5⟩ := mb4 M140 x4 x5
        simp only [Act.put, List.setIfInBounds_toArray, List.set_cons_zero, List.set_cons_succ]
        refine wpAny_ready (rs := [8]) (by kernel_rfl) (by simp) (AllReady.cons rfl (fun K hK => ?_) AllReady.nil)
        go_simp
        refine hK _ _ ?_
        clear hK K
        refine wpAny_ready (rs := [9]) (by kernel_rfl) (by simp) (AllReady.cons rfl (fun K hK => ?_) AllReady.nil)
        go_simp
        refine hK _ _ ?_
        clear hK K
        refine wpAny_done (by kernel_rfl) ?_ _
        exact parse_fin hI x4 x5 hte hS hps hqs M140 HB140 o4_140 oo_140
     ·skip
      go_simp
      refine hK _ _ ?_
      clear hK K
      refine wpAny_ready (rs := [0, 2, 6]) (by kernel_rfl) (by simp) ?_
      refine AllReady.cons rfl (fun K hK => ?_) (AllReady.cons rfl (fun K hK => ?_) (AllReady.cons rfl (fun K hK => ?_) (AllReady.nil)))
      ·skip
       go_simp
       refine hK _ _ ?_
       clear hK K
       refine wpAny_ready (rs := [2, 6]) (by kernel_rfl) (by simp) ?_
       refine AllReady.cons rfl (fun K hK => ?_) (AllReady.cons rfl (fun K hK => ?_) (AllReady.nil))
       ·skip
        go_simp
        refine hK _ _ ?_
        clear hK K
        have M145 := M0.alloc HB0 (.cells #[.string S] 9)
        have HB145 : w.heap.size ≤ (X0.alloc (.cells #[.string S] 9)).heap.size := by rw [World.size_alloc]; omega
        have o4_145 := o4_0.alloc (.cells #[.string S] 9)
        have o5_145 := o5_0.alloc (.cells #[.string S] 9)
        have t2_145 := Boxed.new X0 9 (.string S)
        clear c4 c5 f4 f5
        generalize X0.alloc (.cells #[.string S] 9) = X145 at *
        obtain ⟨c4, c5, f4, f5⟩ := mb4 M145 x4 x5
        refine wpAny_ready (rs := [3, 6]) (by kernel_rfl) (by simp) ?_
        refine AllReady.cons rfl (fun K hK => ?_) (AllReady.cons rfl (fun K hK => ?_) (AllReady.nil))
        ·skip
         refine step_app tyS encS_ok o4_145 S (fun j u hu => cell_of_box t2_145 hu) rfl rfl (by rfl) (by rfl) HB145 (by decide) hl4 ?_
         intro g146 cap146 X146 oo_146 gg_146
         refine hK _ _ ?_
         clear hK K
         have M146 := M145.app o4_145 (.inl rfl) gg_146 HB145
         have HB146 := Nat.le_trans HB145 gg_146.size
         have o5_146 := o5_145.kept gg_146 (o5_145.type_ne o4_145 (by decide))
         clear c4 c5 f4 f5
         obtain ⟨c4, c5, f4, f5⟩ := mb4 M146 x4 x5
         simp only [Act.put, List.setIfInBounds_toArray, List.set_cons_zero, List.set_cons_succ]
         refine wpAny_ready (rs := [6]) (by kernel_rfl) (by simp) (AllReady.cons rfl (fun K hK => ?_) AllReady.nil)
         go_simp
         refine hK _ _ ?_
         clear hK K
         have M147 := M146.alloc HB146 (.cells #[.int .i64 (k : Int)] 3)
         have HB147 : w.heap.size ≤ (X146.alloc (.cells #[.int .i64 (k : Int)] 3)).heap.size := by rw [World.size_alloc]; omega
         have o4_147 := oo_146.alloc (.cells #[.int .i64 (k : Int)] 3)
         have o5_147 := o5_146.alloc (.cells #[.int .i64 (k : Int)] 3)
         have t6_147 := Boxed.new X146 3 (.int .i64 (k : Int))
         have t2_147 := t2_145.alloc (.cells #[.int .i64 (k : Int)] 3)
         clear c4 c5 f4 f5
         generalize X146.alloc (.cells #[.int .i64 (k : Int)] 3) = X147 at *
         obtain ⟨c4, c5, f4, f5⟩ := mb4 M147 x4 x5
         refine wpAny_ready (rs := [7]) (by kernel_rfl) (by simp) (AllReady.cons rfl (fun K hK => ?_) AllReady.nil)
         refine step_app tyI encI_ok o5_147 (k : Int) (fun j u hu => cell_of_box t6_147 hu) rfl rfl (by rfl) (by rfl) HB147 (by decide) hl5 ?_
         intro g148 cap148 X148 oo_148 gg_148
         refine hK _ _ ?_
         clear hK K
         have M148 := M147.app o5_147 (.inr rfl) gg_148 HB147
         have HB148 := Nat.le_trans HB147 gg_148.size
         have o4_148 := o4_147.kept gg_148 (o4_147.type_ne o5_147 (by decide))
         clear c4 c5 f4 f5
         obtain ⟨c4, c5, f4, f5⟩ := mb4 M148 x4 x5
         simp only [Act.put, List.setIfInBounds_toArray, List.set_cons_zero, List.set_cons_succ]
         refine wpAny_ready (rs := [8]) (by kernel_rfl) (by simp) (AllReady.cons rfl (fun K hK => ?_) AllReady.nil)
         go_simp
         refine hK _ _ ?_
         clear hK K
         refine wpAny_ready (rs := [9]) (by kernel_rfl) (by simp) (AllReady.cons rfl (fun K hK => ?_) AllReady.nil)
         go_simp
         refine hK _ _ ?_
         clear hK K
         refine wpAny_done (by kernel_rfl) ?_ _
         exact parse_fin hI x4 x5 hte hS hps hqs M148 HB148 o4_148 oo_148
        ·skip
         go_simp
         refine hK _ _ ?_
         clear hK K
         have M151 := M145.alloc HB145 (.cells #[.int .i64 (k : Int)] 3)
         have HB151 : w.heap.size ≤ (X145.alloc (.cells #[.int .i64 (k : Int)] 3)).heap.size := by rw [World.size_alloc]; omega
         have o4_151 := o4_145.alloc (.cells #[.int .i64 (k : Int)] 3)
         have o5_151 := o5_145.alloc (.cells #[.int .i64 (k : Int)] 3)
         have t6_151 := Boxed.new X145 3 (.int .i64 (k : Int))
         have t2_151 := t2_145.alloc (.cells #[.int .i64 (k : Int)] 3)
         clear c4 c5 f4 f5
         generalize X145.alloc (.cells #[.int .i64 (k : Int)] 3) = X151 at *
         obtain ⟨c4, c5, f4, f5⟩ := mb4 M151 x4 x5
         refine wpAny_ready (rs := [3]) (by kernel_rfl) (by simp) (AllReady.cons rfl (fun K hK => ?_) AllReady.nil)
         refine step_app tyS encS_ok o4_151 S (fun j u hu => cell_of_box t2_151 hu) rfl rfl (by rfl) (by rfl) HB151 (by decide) hl4 ?_
         intro g152 cap152 X152 oo_152 gg_152
         refine hK _ _ ?_
         clear hK K
         have M152 := M151.app o4_151 (.inl rfl) gg_152 HB151
         have HB152 := Nat.le_trans HB151 gg_152.size
         have o5_152 := o5_151.kept gg_152 (o5_151.type_ne o4_151 (by decide))
         have t6_152 := t6_151.kept gg_152 (t6_151.not_row (by decide) o4_151)
         clear c4 c5 f4 f5
         obtain ⟨c4, c5, f4, f5⟩ := mb4 M152 x4 x5
         simp only [Act.put, List.setIfInBounds_toArray, List.set_cons_zero, List.set_cons_succ]
         refine wpAny_ready (rs := [7]) (by kernel_rfl) (by simp) (AllReady.cons rfl (fun K hK => ?_) AllReady.nil)
         refine step_app tyI encI_ok o5_152 (k : Int) (fun j u hu => cell_of_box t6_152 hu) rfl rfl (by rfl) (by rfl) HB152 (by decide) hl5 ?_
         intro g153 cap153 X153 oo_153 gg_153
         refine hK _ _ ?_
         clear hK K
         have M153 := M152.app o5_152 (.inr rfl) gg_153 HB152
         have HB153 := Nat.le_trans HB152 gg_153.size
         have o4_153 := oo_152.kept gg_153 (oo_152.type_ne o5_152 (by decide))
         clear c4 c5 f4 f5
         obtain ⟨c4, c5, f4, f5⟩ := mb4 M153 x4 x5
         simp only [Act.put, List.setIfInBounds_toArray, List.set_cons_zero, List.set_cons_succ]
         refine wpAny_ready (rs := [8]) (by kernel_rfl) (by simp) (AllReady.cons rfl (fun K hK => ?_) AllReady.nil)
         go_simp
         refine hK _ _ ?_
         clear hK K
         refine wpAny_ready (rs := [9]) (by kernel_rfl) (by simp) (AllReady.cons rfl (fun K hK => ?_) AllReady.nil)
         go_simp
         refine hK _ _ ?_
         clear hK K
         refine wpAny_done (by kernel_rfl) ?_ _
         exact parse_fin hI x4 x5 hte hS hps hqs M153 HB153 o4_153 oo_153
       ·skip
        go_simp
        refine hK _ _ ?_
        clear hK K
        have M156 := M0.alloc HB0 (.cells #[.int .i64 (k : Int)] 3)
        have HB156 : w.heap.size ≤ (X0.alloc (.cells #[.int .i64 (k : Int)] 3)).heap.size := by rw [World.size_alloc]; omega
        have o4_156 := o4_0.alloc (.cells #[.int .i64 (k : Int)] 3)
        have o5_156 := o5_0.alloc (.cells #[.int .i64 (k : Int)] 3)
        have t6_156 := Boxed.new X0 3 (.int .i64 (k : Int))
        clear c4 c5 f4 f5
        generalize X0.alloc (.cells #[.int .i64 (k : Int)] 3) = X156 at *
        obtain ⟨c4, c5, f4, f5⟩ := mb4 M156 x4 x5
        refine wpAny_ready (rs := [2]) (by kernel_rfl) (by simp) (AllReady.cons rfl (fun K hK => ?_) AllReady.nil)
        go_simp
        refine hK _ _ ?_
        clear hK K
        have M157 := M156.alloc HB156 (.cells #[.string S] 9)
        have HB157 : w.heap.size ≤ (X156.alloc (.cells #[.string S] 9)).heap.size := by rw [World.size_alloc]; omega
        have o4_157 := o4_156.alloc (.cells #[.string S] 9)
        have o5_157 := o5_156.alloc (.cells #[.string S] 9)
        have t2_157 := Boxed.new X156 9 (.string S)
        have t6_157 := t6_156.alloc (.cells #[.string S] 9)
        clear c4 c5 f4 f5
        generalize X156.alloc (.cells #[.string S] 9) = X157 at *
        obtain ⟨c4, c5, f4, f5⟩ := mb4 M157 x4 x5
        refine wpAny_ready (rs := [3]) (by kernel_rfl) (by simp) (AllReady.cons rfl (fun K hK => ?_) AllReady.nil)
        refine step_app tyS encS_ok o4_157 S (fun j u hu => cell_of_box t2_157 hu) rfl rfl (by rfl) (by rfl) HB157 (by decide) hl4 ?_
        intro g158 cap158 X158 oo_158 gg_158
        refine hK _ _ ?_
        clear hK K
        have M158 := M157.app o4_157 (.inl rfl) gg_158 HB157
        have HB158 := Nat.le_trans HB157 gg_158.size
        have o5_158 := o5_157.kept gg_158 (o5_157.type_ne o4_157 (by decide))
        have t6_158 := t6_157.kept gg_158 (t6_157.not_row (by decide) o4_157)
        clear c4 c5 f4 f5
        obtain ⟨c4, c5, f4, f5⟩ := mb4 M158 x4 x5
        simp only [Act.put, List.setIfInBounds_toArray, List.set_cons_zero, List.set_cons_succ]
        refine wpAny_ready (rs := [7]) (by kernel_rfl) (by simp) (AllReady.cons rfl (fun K hK => ?_) AllReady.nil)
        refine step_app tyI encI_ok o5_158 (k : Int) (fun j u hu => cell_of_box t6_158 hu) rfl rfl (by rfl) (by rfl) HB158 (by decide) hl5 ?_
        intro g159 cap159 X159 oo_159 gg_159
        refine hK _ _ ?_
        clear hK K
        have M159 := M158.app o5_158 (.inr rfl) gg_159 HB158
        have HB159 := Nat.le_trans HB158 gg_159.size
        have o4_159 := oo_158.kept gg_159 (oo_158.type_ne o5_158 (by decide))
        clear c4 c5 f4 f5
        obtain ⟨c4, c5, f4, f5⟩ := mb4 M159 x4 x5
        simp only [Act.put, List.setIfInBounds_toArray, List.set_cons_zero, List.set_cons_succ]
        refine wpAny_ready (rs := [8]) (by kernel_rfl) (by simp) (AllReady.cons rfl (fun K hK => ?_) AllReady.nil)
        go_simp
        refine hK _ _ ?_
        clear hK K
        refine wpAny_ready (rs := [9]) (by kernel_rfl) (by simp) (AllReady.cons rfl (fun K hK => ?_) AllReady.nil)
        go_simp
        refine hK _ _ ?_
        clear hK K
        refine wpAny_done (by kernel_rfl) ?_ _
        exact parse_fin hI x4 x5 hte hS hps hqs M159 HB159 o4_159 oo_159
      ·skip
       go_simp
       refine hK _ _ ?_
       clear hK K
       have M162 := M0.alloc HB0 (.cells #[.string S] 9)
       have HB162 : w.heap.size ≤ (X0.alloc (.cells #[.string S] 9)).heap.size := by rw [World.size_alloc]; omega
       have o4_162 := o4_0.alloc (.cells #[.string S] 9)
       have o5_162 := o5_0.alloc (.cells #[.string S] 9)
       have t2_162 := Boxed.new X0 9 (.string S)
       clear c4 c5 f4 f5
       generalize X0.alloc (.cells #[.string S] 9) = X162 at *
       obtain ⟨c4, c5, f4, f5⟩ := mb4 M162 x4 x5
       refine wpAny_ready (rs := [0, 6]) (by kernel_rfl) (by simp) ?_
       refine AllReady.cons rfl (fun K hK => ?_) (AllReady.cons rfl (fun K hK => ?_) (AllReady.nil))
       ·skip
        go_simp
        refine hK _ _ ?_
        clear hK K
        refine wpAny_ready (rs := [3, 6]) (by kernel_rfl) (by simp) ?_
        refine AllReady.cons rfl (fun K hK => ?_) (AllReady.cons rfl (fun K hK => ?_) (AllReady.nil))
        ·skip
         refine step_app tyS encS_ok o4_162 S (fun j u hu => cell_of_box t2_162 hu) rfl rfl (by rfl) (by rfl) HB162 (by decide) hl4 ?_
         intro g164 cap164 X164 oo_164 gg_164
         refine hK _ _ ?_
         clear hK K
         have M164 := M162.app o4_162 (.inl rfl) gg_164 HB162
         have HB164 := Nat.le_trans HB162 gg_164.size
         have o5_164 := o5_162.kept gg_164 (o5_162.type_ne o4_162 (by decide))
         clear c4 c5 f4 f5
         obtain ⟨c4, c5, f4, f5⟩ := mb4 M164 x4 x5
         simp only [Act.put, List.setIfInBounds_toArray, List.set_cons_zero, List.set_cons_succ]
         refine wpAny_ready (rs := [6]) (by kernel_rfl) (by simp) (AllReady.cons rfl (fun K hK => ?_) AllReady.nil)
         go_simp
         refine hK _ _ ?_
         clear hK K
         have M165 := M164.alloc HB164 (.cells #[.int .i64 (k : Int)] 3)
         have HB165 : w.heap.size ≤ (X164.alloc (.cells #[.int .i64 (k : Int)] 3)).heap.size := by rw [World.size_alloc]; omega
         have o4_165 := oo_164.alloc (.cells #[.int .i64 (k : Int)] 3)
         have o5_165 := o5_164.alloc (.cells #[.int .i64 (k : Int)] 3)
         have t6_165 := Boxed.new X164 3 (.int .i64 (k : Int))
         have t2_165 := t2_162.alloc (.cells #[.int .i64 (k : Int)] 3)
         clear c4 c5 f4 f5
         generalize X164.alloc (.cells #[.int .i64 (k : Int)] 3) = X165 at *
         obtain ⟨c4, c5, f4, f5⟩ := mb4 M165 x4 x5
         refine wpAny_ready (rs := [7]) (by kernel_rfl) (by simp) (AllReady.cons rfl (fun K hK => ?_) AllReady.nil)
         refine step_app tyI encI_ok o5_165 (k : Int) (fun j u hu => cell_of_box t6_165 hu) rfl rfl (by rfl) (by rfl) HB165 (by decide) hl5 ?_
         intro g166 cap166 X166 oo_166 gg_166
         refine hK _ _ ?_
         clear hK K
         have M166 := M165.app o5_165 (.inr rfl) gg_166 HB165
         have HB166 := Nat.le_trans HB165 gg_166.size
         have o4_166 := o4_165.kept gg_166 (o4_165.type_ne o5_165 (by decide))
         clear c4 c5 f4 f5
         obtain ⟨c4, c5, f4, f5⟩ := mb4 M166 x4 x5
         simp only [Act.put, List.setIfInBounds_toArray, List.set_cons_zero, List.set_cons_succ]
         refine wpAny_ready (rs := [8]) (by kernel_rfl) (by simp) (AllReady.cons rfl (fun K hK => ?_) AllReady.nil)
         go_simp
         refine hK _ _ ?_
         clear hK K
         refine wpAny_ready (rs := [9]) (by kernel_rfl) (by simp) (AllReady.cons rfl (fun K hK => ?_) AllReady.nil)
         go_simp
         refine hK _ _ ?_
         clear hK K
         refine wpAny_done (by kernel_rfl) ?_ _
         exact parse_fin hI x4 x5 hte hS hps hqs M166 HB166 o4_166 oo_166
        ·skip
         go_simp
         refine hK _ _ ?_
         clear hK K
         have M169 := M162.alloc HB162 (.cells #[.int .i64 (k : Int)] 3)
         have HB169 : w.heap.size ≤ (X162.alloc (.cells #[.int .i64 (k : Int)] 3)).heap.size := by rw [World.size_alloc]; omega
         have o4_169 := o4_162.alloc (.cells #[.int .i64 (k : Int)] 3)
         have o5_169 := o5_162.alloc (.cells #[.int .i64 (k : Int)] 3)
         have t6_169 := Boxed.new X162 3 (.int .i64 (k : Int))
         have t2_169 := t2_162.alloc (.cells #[.int .i64 (k : Int)] 3)
         clear c4 c5 f4 f5
         generalize X162.alloc (.cells #[.int .i64 (k : Int)] 3) = X169 at *
         obtain ⟨c4, c5, f4, f5⟩ := mb4 M169 x4 x5
         refine wpAny_ready (rs := [3]) (by kernel_rfl) (by simp) (AllReady.cons rfl (fun K hK => ?_) AllReady.nil)
         refine step_app tyS encS_ok o4_169 S (fun j u hu => cell_of_box t2_169 hu) rfl rfl (by rfl) (by rfl) HB169 (by decide) hl4 ?_
         intro g170 cap170 X170 oo_170 gg_170
         refine hK _ _ ?_
         clear hK K
         have M170 := M169.app o4_169 (.inl rfl) gg_170 HB169
         have HB170 := Nat.le_trans HB169 gg_170.size
         have o5_170 := o5_169.kept gg_170 (o5_169.type_ne o4_169 (by decide))
         have t6_170 := t6_169.kept gg_170 (t6_169.not_row (by decide) o4_169)
         clear c4 c5 f4 f5
         obtain ⟨c4, c5, f4, f5⟩ := mb4 M170 x4 x5
         simp only [Act.put, List.setIfInBounds_toArray, List.set_cons_zero, List.set_cons_succ]
         refine wpAny_ready (rs := [7]) (by kernel_rfl) (by simp) (AllReady.cons rfl (fun K hK => ?_) AllReady.nil)
         refine step_app tyI encI_ok o5_170 (k : Int) (fun j u hu => cell_of_box t6_170 hu) rfl rfl (by rfl) (by rfl) HB170 (by decide) hl5 ?_
         intro g171 cap171 X171 oo_171 gg_171
         refine hK _ _ ?_
         clear hK K
         have M171 := M170.app o5_170 (.inr rfl) gg_171 HB170
         have HB171 := Nat.le_trans HB170 gg_171.size
         have o4_171 := oo_170.kept gg_171 (oo_170.type_ne o5_170 (by decide))
         clear c4 c5 f4 f5
         obtain ⟨c4, c5, f4, f5⟩ := mb4 M171 x4 x5
         simp only [Act.put, List.setIfInBounds_toArray, List.set_cons_zero, List.set_cons_succ]
         refine wpAny_ready (rs := [8]) (by kernel_rfl) (by simp) (AllReady.cons rfl (fun K hK => ?_) AllReady.nil)
         go_simp
         refine hK _ _ ?_
         clear hK K
         refine wpAny_ready (rs := [9]) (by kernel_rfl) (by simp) (AllReady.cons rfl (fun K hK => ?_) AllReady.nil)
         go_simp
         refine hK _ _ ?_
         clear hK K
         refine wpAny_done (by kernel_rfl) ?_ _
         exact parse_fin hI x4 x5 hte hS hps hqs M171 HB171 o4_171 oo_171
       ·skip
        go_simp
        refine hK _ _ ?_
        clear hK K
        have M174 := M162.alloc HB162 (.cells #[.int .i64 (k : Int)] 3)
        have HB174 : w.heap.size ≤ (X162.alloc (.cells #[.int .i64 (k : Int)] 3)).heap.size := by rw [World.size_alloc]; omega
        have o4_174 := o4_162.alloc (.cells #[.int .i64 (k : Int)] 3)
        have o5_174 := o5_162.alloc (.cells #[.int .i64 (k : Int)] 3)
        have t6_174 := Boxed.new X162 3 (.int .i64 (k : Int))
        have t2_174 := t2_162.alloc (.cells #[.int .i64 (k : Int)] 3)
        clear c4 c5 f4 f5
        generalize X162.alloc (.cells #[.int .i64 (k : Int)] 3) = X174 at *
        obtain ⟨c4, c5, f4, f5⟩ := mb4 M174 x4 x5
        refine wpAny_ready (rs := [0]) (by kernel_rfl) (by simp) (AllReady.cons rfl (fun K hK => ?_) AllReady.nil)
        go_simp
        refine hK _ _ ?_
        clear hK K
        refine wpAny_ready (rs := [3]) (by kernel_rfl) (by simp) (AllReady.cons rfl (fun K hK => ?_) AllReady.nil)
        refine step_app tyS encS_ok o4_174 S (fun j u hu => cell_of_box t2_174 hu) rfl rfl (by rfl) (by rfl) HB174 (by decide) hl4 ?_
        intro g176 cap176 X176 oo_176 gg_176
        refine hK _ _ ?_
        clear hK K
        have M176 := M174.app o4_174 (.inl rfl) gg_176 HB174
        have HB176 := Nat.le_trans HB174 gg_176.size
        have o5_176 := o5_174.kept gg_176 (o5_174.type_ne o4_174 (by decide))
        have t6_176 := t6_174.kept gg_176 (t6_174.not_row (by decide) o4_174)
        clear c4 c5 f4 f5
        obtain ⟨c4, c5, f4, f5⟩ := mb4 M176 x4 x5
        simp only [Act.put, List.setIfInBounds_toArray, List.set_cons_zero, List.set_cons_succ]
        refine wpAny_ready (rs := [7]) (by kernel_rfl) (by simp) (AllReady.cons rfl (fun K hK => ?_) AllReady.nil)
        refine step_app tyI encI_ok o5_176 (k : Int) (fun j u hu => cell_of_box t6_176 hu) rfl rfl (by rfl) (by rfl) HB176 (by decide) hl5 ?_
        intro g177 cap177 X177 oo_177 gg_177
        refine hK _ _ ?_
        clear hK K
        have M177 := M176.app o5_176 (.inr rfl) gg_177 HB176
        have HB177 := Nat.le_trans HB176 gg_177.size
        have o4_177 := oo_176.kept gg_177 (oo_176.type_ne o5_176 (by decide))
        clear c4 c5 f4 f5
        obtain ⟨c4, c5, f4, f5⟩ := mb4 M177 x4 x5
        simp only [Act.put, List.setIfInBounds_toArray, List.set_cons_zero, List.set_cons_succ]
        refine wpAny_ready (rs := [8]) (by kernel_rfl) (by simp) (AllReady.cons rfl (fun K hK => ?_) AllReady.nil)
        go_simp
        refine hK _ _ ?_
        clear hK K
        refine wpAny_ready (rs := [9]) (by kernel_rfl) (by simp) (AllReady.cons rfl (fun K hK => ?_) AllReady.nil)
        go_simp
        refine hK _ _ ?_
        clear hK K
        refine wpAny_done (by kernel_rfl) ?_ _
        exact parse_fin hI x4 x5 hte hS hps hqs M177 HB177 o4_177 oo_177
      ·skip
       go_simp
       refine hK _ _ ?_
       clear hK K
       have M180 := M0.alloc HB0 (.cells #[.int .i64 (k : Int)] 3)
       have HB180 : w.heap.size ≤ (X0.alloc (.cells #[.int .i64 (k : Int)] 3)).heap.size := by rw [World.size_alloc]; omega
       have o4_180 := o4_0.alloc (.cells #[.int .i64 (k : Int)] 3)
       have o5_180 := o5_0.alloc (.cells #[.int .i64 (k : Int)] 3)
       have t6_180 := Boxed.new X0 3 (.int .i64 (k : Int))
       clear c4 c5 f4 f5
       generalize X0.alloc (.cells #[.int .i64 (k : Int)] 3) = X180 at *
       obtain ⟨c4, c5, f4, f5⟩ := mb4 M180 x4 x5
       refine wpAny_ready (rs := [0, 2]) (by kernel_rfl) (by simp) ?_
       refine AllReady.cons rfl (fun K hK => ?_) (AllReady.cons rfl (fun K hK => ?_) (AllReady.nil))
       ·skip
        go_simp
        refine hK _ _ ?_
        clear hK K
        refine wpAny_ready (rs := [2]) (by kernel_rfl) (by simp) (AllReady.cons rfl (fun K hK => ?_) AllReady.nil)
        go_simp
        refine hK _ _ ?_
        clear hK K
        have M182 := M180.alloc HB180 (.cells #[.string S] 9)
        have HB182 : w.heap.size ≤ (X180.alloc (.cells #[.string S] 9)).heap.size := by rw [World.size_alloc]; omega
        have o4_182 := o4_180.alloc (.cells #[.string S] 9)
        have o5_182 := o5_180.alloc (.cells #[.string S] 9)
        have t2_182 := Boxed.new X180 9 (.string S)
        have t6_182 := t6_180.alloc (.cells #[.string S] 9)
        clear c4 c5 f4 f5
        generalize X180.alloc (.cells #[.string S] 9) = X182 at *
        obtain ⟨c4, c5, f4, f5⟩ := mb4 M182 x4 x5
        refine wpAny_ready (rs := [3]) (by kernel_rfl) (by simp) (AllReady.cons rfl (fun K hK => ?_) AllReady.nil)
        refine step_app tyS encS_ok o4_182 S (fun j u hu => cell_of_box t2_182 hu) rfl rfl (by rfl) (by rfl) HB182 (by decide) hl4 ?_
        intro g183 cap183 X183 oo_183 gg_183
        refine hK _ _ ?_
        clear hK K
        have M183 := M182.app o4_182 (.inl rfl) gg_183 HB182
        have HB183 := Nat.le_trans HB182 gg_183.size
        have o5_183 := o5_182.kept gg_183 (o5_182.type_ne o4_182 (by decide))
        have t6_183 := t6_182.kept gg_183 (t6_182.not_row (by decide) o4_182)
        clear c4 c5 f4 f5
        obtain ⟨c4, c5, f4, f5⟩ := mb4 M183 x4 x5
        simp only [Act.put, List.setIfInBounds_toArray, List.set_cons_zero, List.set_cons_succ]
        refine wpAny_ready (rs := [7]) (by kernel_rfl) (by simp) (AllReady.cons rfl (fun K hK => ?_) AllReady.nil)
        refine step_app tyI encI_ok o5_183 (k : Int) (fun j u hu => cell_of_box t6_183 hu) rfl rfl (by rfl) (by rfl) HB183 (by decide) hl5 ?_
        intro g184 cap184 X184 oo_184 gg_184
        refine hK _ _ ?_
        clear hK K
        have M184 := M183.app o5_183 (.inr rfl) gg_184 HB183
        have HB184 := Nat.le_trans HB183 gg_184.size
        have o4_184 := oo_183.kept gg_184 (oo_183.type_ne o5_183 (by decide))
        clear c4 c5 f4 f5
        obtain ⟨c4, c5, f4, f5⟩ := mb4 M184 x4 x5
        simp only [Act.put, List.setIfInBounds_toArray, List.set_cons_zero, List.set_cons_succ]
        refine wpAny_ready (rs := [8]) (by kernel_rfl) (by simp) (AllReady.cons rfl (fun K hK => ?_) AllReady.nil)
        go_simp
        refine hK _ _ ?_
        clear hK K
        refine wpAny_ready (rs := [9]) (by kernel_rfl) (by simp) (AllReady.cons rfl (fun K hK => ?_) AllReady.nil)
        go_simp
        refine hK _ _ ?_
        clear hK K
        refine wpAny_done (by kernel_rfl) ?_ _
        exact parse_fin hI x4 x5 hte hS hps hqs M184 HB184 o4_184 oo_184
       ·skip
        go_simp
        refine hK _ _ ?_
        clear hK K
        have M187 := M180.alloc HB180 (.cells #[.string S] 9)
        have HB187 : w.heap.size ≤ (X180.alloc (.cells #[.string S] 9)).heap.size := by rw [World.size_alloc]; omega
        have o4_187 := o4_180.alloc (.cells #[.string S] 9)
        have o5_187 := o5_180.alloc (.cells #[.string S] 9)
        have t2_187 := Boxed.new X180 9 (.string S)
        have t6_187 := t6_180.alloc (.cells #[.string S] 9)
        clear c4 c5 f4 f5
        generalize X180.alloc (.cells #[.string S] 9) = X187 at *
        obtain ⟨c4, c5, f4, f5⟩ := mb4 M187 x4 x5
        refine wpAny_ready (rs := [0]) (by kernel_rfl) (by simp) (AllReady.cons rfl (fun K hK => ?_) AllReady.nil)
        go_simp
        refine hK _ _ ?_
        clear hK K
        refine wpAny_ready (rs := [3]) (by kernel_rfl) (by simp) (AllReady.cons rfl (fun K hK => ?_) AllReady.nil)
        refine step_app tyS encS_ok o4_187 S (fun j u hu => cell_of_box t2_187 hu) rfl rfl (by rfl) (by rfl) HB187 (by decide) hl4 ?_
        intro g189 cap189 X189 oo_189 gg_189
        refine hK _ _ ?_
        clear hK K
        have M189 := M187.app o4_187 (.inl rfl) gg_189 HB187
        have HB189 := Nat.le_trans HB187 gg_189.size
        have o5_189 := o5_187.kept gg_189 (o5_187.type_ne o4_187 (by decide))
        have t6_189 := t6_187.kept gg_189 (t6_187.not_row (by decide) o4_187)
        clear c4 c5 f4 f5
        obtain ⟨c4, c5, f4, f5⟩ := mb4 M189 x4 x5
        simp only [Act.put, List.setIfInBounds_toArray, List.set_cons_zero, List.set_cons_succ]
        refine wpAny_ready (rs := [7]) (by kernel_rfl) (by simp) (AllReady.cons rfl (fun K hK => ?_) AllReady.nil)
        refine step_app tyI encI_ok o5_189 (k : Int) (fun j u hu => cell_of_box t6_189 hu) rfl rfl (by rfl) (by rfl) HB189 (by decide) hl5 ?_
        intro g190 cap190 X190 oo_190 gg_190
        refine hK _ _ ?_
        clear hK K
        have M190 := M189.app o5_189 (.inr rfl) gg_190 HB189
        have HB190 := Nat.le_trans HB189 gg_190.size
        have o4_190 := oo_189.kept gg_190 (oo_189.type_ne o5_189 (by decide))
        clear c4 c5 f4 f5
        obtain ⟨c4, c5, f4, f5⟩ := mb4 M190 x4 x5
        simp only [Act.put, List.setIfInBounds_toArray, List.set_cons_zero, List.set_cons_succ]
        refine wpAny_ready (rs := [8]) (by kernel_rfl) (by simp) (AllReady.cons rfl (fun K hK => ?_) AllReady.nil)
        go_simp
        refine hK _ _ ?_
        clear hK K
        refine wpAny_ready (rs := [9]) (by kernel_rfl) (by simp) (AllReady.cons rfl (fun K hK => ?_) AllReady.nil)
        go_simp
        refine hK _ _ ?_
        clear hK K
        refine wpAny_done (by kernel_rfl) ?_ _
        exact parse_fin hI x4 x5 hte hS hps hqs M190 HB190 o4_190 oo_190
     ·skip
      go_simp
      refine hK _ _ ?_
      clear hK K
      have M193 := M0.alloc HB0 (.cells #[.int .i64 (k : Int)] 3)
      have HB193 : w.heap.size ≤ (X0.alloc (.cells #[.int .i64 (k : Int)] 3)).heap.size := by rw [World.size_alloc]; omega
      have o4_193 := o4_0.alloc (.cells #[.int .i64 (k : Int)] 3)
      have o5_193 := o5_0.alloc (.cells #[.int .i64 (k : Int)] 3)
      have t6_193 := Boxed.new X0 3 (.int .i64 (k : Int))
      clear c4 c5 f4 f5
      generalize X0.alloc (.cells #[.int .i64 (k : Int)] 3) = X193 at *
      obtain ⟨c4, c5, f4, f5⟩ := mb4 M193 x4 x5
      refine wpAny_ready (rs := [0, 2, 4]) (by kernel_rfl) (by simp) ?_
      refine AllReady.cons rfl (fun K hK => ?_) (AllReady.cons rfl (fun K hK => ?_) (AllReady.cons rfl (fun K hK => ?_) (AllReady.nil)))
      ·skip
       go_simp
       refine hK _ _ ?_
       clear hK K
       refine wpAny_ready (rs := [2, 4]) (by kernel_rfl) (by simp) ?_
       refine AllReady.cons rfl (fun K hK => ?_) (AllReady.cons rfl (fun K hK => ?_) (AllReady.nil))
       ·skip
        go_simp
        refine hK _ _ ?_
        clear hK K
        have M195 := M193.alloc HB193 (.cells #[.string S] 9)
        have HB195 : w.heap.size ≤ (X193.alloc (.cells #[.string S] 9)).heap.size := by rw [World.size_alloc]; omega
        have o4_195 := o4_193.alloc (.cells #[.string S] 9)
        have o5_195 := o5_193.alloc (.cells #[.string S] 9)
        have t2_195 := Boxed.new X193 9 (.string S)
        have t6_195 := t6_193.alloc (.cells #[.string S] 9)
        clear c4 c5 f4 f5
        generalize X193.alloc (.cells #[.string S] 9) = X195 at *
        obtain ⟨c4, c5, f4, f5⟩ := mb4 M195 x4 x5
        refine wpAny_ready (rs := [3, 4]) (by kernel_rfl) (by simp) ?_
        refine AllReady.cons rfl (fun K hK => ?_) (AllReady.cons rfl (fun K hK => ?_) (AllReady.nil))
        ·skip
         refine step_app tyS encS_ok o4_195 S (fun j u hu => cell_of_box t2_195 hu) rfl rfl (by rfl) (by rfl) HB195 (by decide) hl4 ?_
         intro g196 cap196 X196 oo_196 gg_196
         refine hK _ _ ?_
         clear hK K
         have M196 := M195.app o4_195 (.inl rfl) gg_196 HB195
         have HB196 := Nat.le_trans HB195 gg_196.size
         have o5_196 := o5_195.kept gg_196 (o5_195.type_ne o4_195 (by decide))
         have t6_196 := t6_195.kept gg_196 (t6_195.not_row (by decide) o4_195)
         clear c4 c5 f4 f5
         obtain ⟨c4, c5, f4, f5⟩ := mb4 M196 x4 x5
         simp only [Act.put, List.setIfInBounds_toArray, List.set_cons_zero, List.set_cons_succ]
         refine wpAny_ready (rs := [4]) (by kernel_rfl) (by simp) (AllReady.cons rfl (fun K hK => ?_) AllReady.nil)
         go_simp
         refine hK _ _ ?_
         clear hK K
         refine wpAny_ready (rs := [7]) (by kernel_rfl) (by simp) (AllReady.cons rfl (fun K hK => ?_) AllReady.nil)
         refine step_app tyI encI_ok o5_196 (k : Int) (fun j u hu => cell_of_box t6_196 hu) rfl rfl (by rfl) (by rfl) HB196 (by decide) hl5 ?_
         intro g198 cap198 X198 oo_198 gg_198
         refine hK _ _ ?_
         clear hK K
         have M198 := M196.app o5_196 (.inr rfl) gg_198 HB196
         have HB198 := Nat.le_trans HB196 gg_198.size
         have o4_198 := oo_196.kept gg_198 (oo_196.type_ne o5_196 (by decide))
         clear c4 c5 f4 f5
         obtain ⟨c4, c5, f4, f5⟩ := mb4 M198 x4 x5
         simp only [Act.put, List.setIfInBounds_toArray, List.set_cons_zero, List.set_cons_succ]
         refine wpAny_ready (rs := [8]) (by kernel_rfl) (by simp) (AllReady.cons rfl (fun K hK => ?_) AllReady.nil)
         go_simp
         refine hK _ _ ?_
         clear hK K
         refine wpAny_ready (rs := [9]) (by kernel_rfl) (by simp) (AllReady.cons rfl (fun K hK => ?_) AllReady.nil)
         go_simp
         refine hK _ _ ?_
         clear hK K
         refine wpAny_done (by kernel_rfl) ?_ _
         exact parse_fin hI x4 x5 hte hS hps hqs M198 HB198 o4_198 oo_198
        ·skip
         go_simp
         refine hK _ _ ?_
         clear hK K
         refine wpAny_ready (rs := [3]) (by kernel_rfl) (by simp) (AllReady.cons rfl (fun K hK => ?_) AllReady.nil)
         refine step_app tyS encS_ok o4_195 S (fun j u hu => cell_of_box t2_195 hu) rfl rfl (by rfl) (by rfl) HB195 (by decide) hl4 ?_
         intro g202 cap202 X202 oo_202 gg_202
         refine hK _ _ ?_
         clear hK K
         have M202 := M195.app o4_195 (.inl rfl) gg_202 HB195
         have HB202 := Nat.le_trans HB195 gg_202.size
         have o5_202 := o5_195.kept gg_202 (o5_195.type_ne o4_195 (by decide))
         have t6_202 := t6_195.kept gg_202 (t6_195.not_row (by decide) o4_195)
         clear c4 c5 f4 f5
         obtain ⟨c4, c5, f4, f5⟩ := mb4 M202 x4 x5
         simp only [Act.put, List.setIfInBounds_toArray, List.set_cons_zero, List.set_cons_succ]
         refine wpAny_ready (rs := [7]) (by kernel_rfl) (by simp) (AllReady.cons rfl (fun K hK => ?_) AllReady.nil)
         refine step_app tyI encI_ok o5_202 (k : Int) (fun j u hu => cell_of_box t6_202 hu) rfl rfl (by rfl) (by rfl) HB202 (by decide) hl5 ?_
         intro g203 cap203 X203 oo_203 gg_203
         refine hK _ _ ?_
         clear hK K
         have M203 := M202.app o5_202 (.inr rfl) gg_203 HB202
         have HB203 := Nat.le_trans HB202 gg_203.size
         have o4_203 := oo_202.kept gg_203 (oo_202.type_ne o5_202 (by decide))
         clear c4 c5 f4 f5
         obtain ⟨c4, c5, f4, f5⟩ := mb4 M203 x4 x5
         simp only [Act.put, List.setIfInBounds_toArray, List.set_cons_zero, List.set_cons_succ]
         refine wpAny_ready (rs := [8]) (by kernel_rfl) (by simp) (AllReady.cons rfl (fun K hK => ?_) AllReady.nil)
         go_simp
         refine hK _ _ ?_
         clear hK K
         refine wpAny_ready (rs := [9]) (by kernel_rfl) (by simp) (AllReady.cons rfl (fun K hK => ?_) AllReady.nil)
         go_simp
         refine hK _ _ ?_
         clear hK K
         refine wpAny_done (by kernel_rfl) ?_ _
         exact parse_fin hI x4 x5 hte hS hps hqs M203 HB203 o4_203 oo_203
       ·skip
        go_simp
        refine hK _ _ ?_
        clear hK K
        refine wpAny_ready (rs := [2]) (by kernel_rfl) (by simp) (AllReady.cons rfl (fun K hK => ?_) AllReady.nil)
        go_simp
        refine hK _ _ ?_
        clear hK K
        have M207 := M193.alloc HB193 (.cells #[.string S] 9)
        have HB207 : w.heap.size ≤ (X193.alloc (.cells #[.string S] 9)).heap.size := by rw [World.size_alloc]; omega
        have o4_207 := o4_193.alloc (.cells #[.string S] 9)
        have o5_207 := o5_193.alloc (.cells #[.string S] 9)
        have t2_207 := Boxed.new X193 9 (.string S)
        have t6_207 := t6_193.alloc (.cells #[.string S] 9)
        clear c4 c5 f4 f5
        generalize X193.alloc (.cells #[.string S] 9) = X207 at *
        obtain ⟨c4, c5, f4, f5⟩ := mb4 M207 x4 x5
        refine wpAny_ready (rs := [3]) (by kernel_rfl) (by simp) (AllReady.cons rfl (fun K hK => ?_) AllReady.nil)
        refine step_app tyS encS_ok o4_207 S (fun j u hu => cell_of_box t2_207 hu) rfl rfl (by rfl) (by rfl) HB207 (by decide) hl4 ?_
        intro g208 cap208 X208 oo_208 gg_208
        refine hK _ _ ?_
        clear hK K
        have M208 := M207.app o4_207 (.inl rfl) gg_208 HB207
        have HB208 := Nat.le_trans HB207 gg_208.size
        have o5_208 := o5_207.kept gg_208 (o5_207.type_ne o4_207 (by decide))
        have t6_208 := t6_207.kept gg_208 (t6_207.not_row (by decide) o4_207)
        clear c4 c5 f4 f5
        obtain ⟨c4, c5, f4, f5⟩ := mb4 M208 x4 x5
        simp only [Act.put, List.setIfInBounds_toArray, List.set_cons_zero, List.set_cons_succ]
        refine wpAny_ready (rs := [7]) (by kernel_rfl) (by simp) (AllReady.cons rfl (fun K hK => ?_) AllReady.nil)
        refine step_app tyI encI_ok o5_208 (k : Int) (fun j u hu => cell_of_box t6_208 hu) rfl rfl (by rfl) (by rfl) HB208 (by decide) hl5 ?_
        intro g209 cap209 X209 oo_209 gg_209
        refine hK _ _ ?_
        clear hK K
        have M209 := M208.app o5_208 (.inr rfl) gg_209 HB208
        have HB209 := Nat.le_trans HB208 gg_209.size
        have o4_209 := oo_208.kept gg_209 (oo_208.type_ne o5_208 (by decide))
        clear c4 c5 f4 f5
        obtain ⟨c4, c5, f4, f5⟩ := mb4 M209 x4 x5
        simp only [Act.put, List.setIfInBounds_toArray, List.set_cons_zero, List.set_cons_succ]
        refine wpAny_ready (rs := [8]) (by kernel_rfl) (by simp) (AllReady.cons rfl (fun K hK => ?_) AllReady.nil)
        go_simp
        refine hK _ _ ?_
        clear hK K
        refine wpAny_ready (rs := [9]) (by kernel_rfl) (by simp) (AllReady.cons rfl (fun K hK => ?_) AllReady.nil)
        go_simp
        refine hK _ _ ?_
        clear hK K
        refine wpAny_done (by kernel_rfl) ?_ _
        exact parse_fin hI x4 x5 hte hS hps hqs M209 HB209 o4_209 oo_209
      ·skip
       go_simp
       refine hK _ _ ?_
       clear hK K
       have M212 := M193.alloc HB193 (.cells #[.string S] 9)
       have HB212 : w.heap.size ≤ (X193.alloc (.cells #[.string S] 9)).heap.size := by rw [World.size_alloc]; omega
       have o4_212 := o4_193.alloc (.cells #[.string S] 9)
       have o5_212 := o5_193.alloc (.cells #[.string S] 9)
       have t2_212 := Boxed.new X193 9 (.string S)
       have t6_212 := t6_193.alloc (.cells #[.string S] 9)
       clear c4 c5 f4 f5
       generalize X193.alloc (.cells #[.string S] 9) = X212 at *
       obtain ⟨c4, c5, f4, f5⟩ := mb4 M212 x4 x5
       refine wpAny_ready (rs := [0, 4]) (by kernel_rfl) (by simp) ?_
       refine AllReady.cons rfl (fun K hK => ?_) (AllReady.cons rfl (fun K hK => ?_) (AllReady.nil))
       ·skip
        go_simp
        refine hK _ _ ?_
        clear hK K
        refine wpAny_ready (rs := [3, 4]) (by kernel_rfl) (by simp) ?_
        refine AllReady.cons rfl (fun K hK => ?_) (AllReady.cons rfl (fun K hK => ?_) (AllReady.nil))
        ·skip
         refine step_app tyS encS_ok o4_212 S (fun j u hu => cell_of_box t2_212 hu) rfl rfl (by rfl) (by rfl) HB212 (by decide) hl4 ?_
         intro g214 cap214 X214 oo_214 gg_214
         refine hK _ _ ?_
         clear hK K
         have M214 := M212.app o4_212 (.inl rfl) gg_214 HB212
         have HB214 := Nat.le_trans HB212 gg_214.size
         have o5_214 := o5_212.kept gg_214 (o5_212.type_ne o4_212 (by decide))
         have t6_214 := t6_212.kept gg_214 (t6_212.not_row (by decide) o4_212)
         clear c4 c5 f4 f5
         obtain ⟨c4, c5, f4, f5⟩ := mb4 M214 x4 x5
         simp only [Act.put, List.setIfInBounds_toArray, List.set_cons_zero, List.set_cons_succ]
         refine wpAny_ready (rs := [4]) (by kernel_rfl) (by simp) (AllReady.cons rfl (fun K hK => ?_) AllReady.nil)
         go_simp
         refine hK _ _ ?_
         clear hK K
         refine wpAny_ready (rs := [7]) (by kernel_rfl) (by simp) (AllReady.cons rfl (fun K hK => ?_) AllReady.nil)
         refine step_app tyI encI_ok o5_214 (k : Int) (fun j u hu => cell_of_box t6_214 hu) rfl rfl (by rfl) (by rfl) HB214 (by decide) hl5 ?_
         intro g216 cap216 X216 oo_216 gg_216
         refine hK _ _ ?_
         clear hK K
         have M216 := M214.app o5_214 (.inr rfl) gg_216 HB214
         have HB216 := Nat.le_trans HB214 gg_216.size
         have o4_216 := oo_214.kept gg_216 (oo_214.type_ne o5_214 (by decide))
         clear c4 c5 f4 f5
         obtain ⟨c4, c5, f4, f5⟩ := mb4 M216 x4 x5
         simp only [Act.put, List.setIfInBounds_toArray, List.set_cons_zero, List.set_cons_succ]
         refine wpAny_ready (rs := [8]) (by kernel_rfl) (by simp) (AllReady.cons rfl (fun K hK => ?_) AllReady.nil)
         go_simp
         refine hK _ _ ?_
         clear hK K
         refine wpAny_ready (rs := [9]) (by kernel_rfl) (by simp) (AllReady.cons rfl (fun K hK => ?_) AllReady.nil)
         go_simp
         refine hK _ _ ?_
         clear hK K
         refine wpAny_done (by kernel_rfl) ?_ _
         exact parse_fin hI x4 x5 hte hS hps hqs M216 HB216 o4_216 oo_216
        ·skip
         go_simp
         refine hK _ _ ?_
         clear hK K
         refine wpAny_ready (rs := [3]) (by kernel_rfl) (by simp) (AllReady.cons rfl (fun K hK => ?_) AllReady.nil)
         refine step_app tyS encS_ok o4_212 S (fun j u hu => cell_of_box t2_212 hu) rfl rfl (by rfl) (by rfl) HB212 (by decide) hl4 ?_
         intro g220 cap220 X220 oo_220 gg_220
         refine hK _ _ ?_
         clear hK K
         have M220 := M212.app o4_212 (.inl rfl) gg_220 HB212
         have HB220 := Nat.le_trans HB212 gg_220.size
         have o5_220 := o5_212.kept gg_220 (o5_212.type_ne o4_212 (by decide))
         have t6_220 := t6_212.kept gg_220 (t6_212.not_row (by decide) o4_212)
         clear c4 c5 f4 f5
         obtain ⟨c4, c5, f4, f5⟩ := mb4 M220 x4 x5
         simp only [Act.put, List.setIfInBounds_toArray, List.set_cons_zero, List.set_cons_succ]
         refine wpAny_ready (rs := [7]) (by kernel_rfl) (by simp) (AllReady.cons rfl (fun K hK => ?_) AllReady.nil)
         refine step_app tyI encI_ok o5_220 (k : Int) (fun j u hu => cell_of_box t6_220 hu) rfl rfl (by rfl) (by rfl) HB220 (by decide) hl5 ?_
         intro g221 cap221 X221 oo_221 gg_221
         refine hK _ _ ?_
         clear hK K
         have M221 := M220.app o5_220 (.inr rfl) gg_221 HB220
         have HB221 := Nat.le_trans HB220 gg_221.size
         have o4_221 := oo_220.kept gg_221 (oo_220.type_ne o5_220 (by decide))
         clear c4 c5 f4 f5
         obtain ⟨c4, c5, f4, f5⟩ := mb4 M221 x4 x5
         simp only [Act.put, List.setIfInBounds_toArray, List.set_cons_zero, List.set_cons_succ]
         refine wpAny_ready (rs := [8]) (by kernel_rfl) (by simp) (AllReady.cons rfl (fun K hK => ?_) AllReady.nil)
         go_simp
         refine hK _ _ ?_
         clear hK K
         refine wpAny_ready (rs := [9]) (by kernel_rfl) (by simp) (AllReady.cons rfl (fun K hK => ?_) AllReady.nil)
         go_simp
         refine hK _ _ ?_
         clear hK K
         refine wpAny_done (by kernel_rfl) ?_ _
         exact parse_fin hI x4 x5 hte hS hps hqs M221 HB221 o4_221 oo_221
       ·skip
        go_simp
        refine hK _ _ ?_
        clear hK K
        refine wpAny_ready (rs := [0]) (by kernel_rfl) (by simp) (AllReady.cons rfl (fun K hK => ?_) AllReady.nil)
        go_simp
        refine hK _ _ ?_
        clear hK K
        refine wpAny_ready (rs := [3]) (by kernel_rfl) (by simp) (AllReady.cons rfl (fun K hK => ?_) AllReady.nil)
        refine step_app tyS encS_ok o4_212 S (fun j u hu => cell_of_box t2_212 hu) rfl rfl (by rfl) (by rfl) HB212 (by decide) hl4 ?_
        intro g226 cap226 X226 oo_226 gg_226
        refine hK _ _ ?_
        clear hK K
        have M226 := M212.app o4_212 (.inl rfl) gg_226 HB212
        have HB226 := Nat.le_trans HB212 gg_226.size
        have o5_226 := o5_212.kept gg_226 (o5_212.type_ne o4_212 (by decide))
        have t6_226 := t6_212.kept gg_226 (t6_212.not_row (by decide) o4_212)
        clear c4 c5 f4 f5
        obtain ⟨c4, c5, f4, f5⟩ := mb4 M226 x4 x5
        simp only [Act.put, List.setIfInBounds_toArray, List.set_cons_zero, List.set_cons_succ]
        refine wpAny_ready (rs := [7]) (by kernel_rfl) (by simp) (AllReady.cons rfl (fun K hK => ?_) AllReady.nil)
        refine step_app tyI encI_ok o5_226 (k : Int) (fun j u hu => cell_of_box t6_226 hu) rfl rfl (by rfl) (by rfl) HB226 (by decide) hl5 ?_
        intro g227 cap227 X227 oo_227 gg_227
        refine hK _ _ ?_
        clear hK K
        have M227 := M226.app o5_226 (.inr rfl) gg_227 HB226
        have HB227 := Nat.le_trans HB226 gg_227.size
        have o4_227 := oo_226.kept gg_227 (oo_226.type_ne o5_226 (by decide))
        clear c4 c5 f4 f5
        obtain ⟨c4, c5, f4, f5⟩ := mb4 M227 x4 x5
        simp only [Act.put, List.setIfInBounds_toArray, List.set_cons_zero, List.set_cons_succ]
        refine wpAny_ready (rs := [8]) (by kernel_rfl) (by simp) (AllReady.cons rfl (fun K hK => ?_) AllReady.nil)
        go_simp
        refine hK _ _ ?_
        clear hK K
        refine wpAny_ready (rs := [9]) (by kernel_rfl) (by simp) (AllReady.cons rfl (fun K hK => ?_) AllReady.nil)
        go_simp
        refine hK _ _ ?_
        clear hK K
        refine wpAny_done (by kernel_rfl) ?_ _
        exact parse_fin hI x4 x5 hte hS hps hqs M227 HB227 o4_227 oo_227
      ·skip
       go_simp
       refine hK _ _ ?_
       clear hK K
       refine wpAny_ready (rs := [0, 2]) (by kernel_rfl) (by simp) ?_
       refine AllReady.cons rfl (fun K hK => ?_) (AllReady.cons rfl (fun K hK => ?_) (AllReady.nil))
       ·skip
        go_simp
        refine hK _ _ ?_
        clear hK K
        refine wpAny_ready (rs := [2]) (by kernel_rfl) (by simp) (AllReady.cons rfl (fun K hK => ?_) AllReady.nil)
        go_simp
        refine hK _ _ ?_
        clear hK K
        have M232 := M193.alloc HB193 (.cells #[.string S] 9)
        have HB232 : w.heap.size ≤ (X193.alloc (.cells #[.string S] 9)).heap.size := by rw [World.size_alloc]; omega
        have o4_232 := o4_193.alloc (.cells #[.string S] 9)
        have o5_232 := o5_193.alloc (.cells #[.string S] 9)
        have t2_232 := Boxed.new X193 9 (.string S)
        have t6_232 := t6_193.alloc (.cells #[.string S] 9)
        clear c4 c5 f4 f5
        generalize X193.alloc (.cells #[.string S] 9) = X232 at *
        obtain ⟨c4, c5, f4, f5⟩ := mb4 M232 x4 x5
        refine wpAny_ready (rs := [3]) (by kernel_rfl) (by simp) (AllReady.cons rfl (fun K hK => ?_) AllReady.nil)
        refine step_app tyS encS_ok o4_232 S (fun j u hu => cell_of_box t2_232 hu) rfl rfl (by rfl) (by rfl) HB232 (by decide) hl4 ?_
        intro g233 cap233 X233 oo_233 gg_233
        refine hK _ _ ?_
        clear hK K
        have M233 := M232.app o4_232 (.inl rfl) gg_233 HB232
        have HB233 := Nat.le_trans HB232 gg_233.size
        have o5_233 := o5_232.kept gg_233 (o5_232.type_ne o4_232 (by decide))
        have t6_233 := t6_232.kept gg_233 (t6_232.not_row (by decide) o4_232)
        clear c4 c5 f4 f5
        obtain ⟨c4, c5, f4, f5⟩ := mb4 M233 x4 x5
        simp only [Act.put, List.setIfInBounds_toArray, List.set_cons_zero, List.set_cons_succ]
        refine wpAny_ready (rs := [7]) (by kernel_rfl) (by simp) (AllReady.cons rfl (fun K hK => ?_) AllReady.nil)
        refine step_app tyI encI_ok o5_233 (k : Int) (fun j u hu => cell_of_box t6_233 hu) rfl rfl (by rfl) (by rfl) HB233 (by decide) hl5 ?_
        intro g234 cap234 X234 oo_234 gg_234
        refine hK _ _ ?_
        clear hK K
        have M234 := M233.app o5_233 (.inr rfl) gg_234 HB233
        have HB234 := Nat.le_trans HB233 gg_234.size
        have o4_234 := oo_233.kept gg_234 (oo_233.type_ne o5_233 (by decide))
        clear c4 c5 f4 f5
        obtain ⟨c4, c5, f4, f5⟩ := mb4 M234 x4 x5
        simp only [Act.put, List.setIfInBounds_toArray, List.set_cons_zero, List.set_cons_succ]
        refine wpAny_ready (rs := [8]) (by kernel_rfl) (by simp) (AllReady.cons rfl (fun K hK => ?_) AllReady.nil)
        go_simp
        refine hK _ _ ?_
        clear hK K
        refine wpAny_ready (rs := [9]) (by kernel_rfl) (by simp) (AllReady.cons rfl (fun K hK => ?_) AllReady.nil)
        go_simp
        refine hK _ _ ?_
        clear hK K
        refine wpAny_done (by kernel_rfl) ?_ _
        exact parse_fin hI x4 x5 hte hS hps hqs M234 HB234 o4_234 oo_234
       ·skip
        go_simp
        refine hK _ _ ?_
        clear hK K
        have M237 := M193.alloc HB193 (.cells #[.string S] 9)
        have HB237 : w.heap.size ≤ (X193.alloc (.cells #[.string S] 9)).heap.size := by rw [World.size_alloc]; omega
        have o4_237 := o4_193.alloc (.cells #[.string S] 9)
        have o5_237 := o5_193.alloc (.cells #[.string S] 9)
        have t2_237 := Boxed.new X193 9 (.string S)
        have t6_237 := t6_193.alloc (.cells #[.string S] 9)
        clear c4 c5 f4 f5
        generalize X193.alloc (.cells #[.string S] 9) = X237 at *
        obtain ⟨c4, c5, f4, f5⟩ := mb4 M237 x4 x5
        refine wpAny_ready (rs := [0]) (by kernel_rfl) (by simp) (AllReady.cons rfl (fun K hK => ?_) AllReady.nil)
        go_simp
        refine hK _ _ ?_
        clear hK K
        refine wpAny_ready (rs := [3]) (by kernel_rfl) (by simp) (AllReady.cons rfl (fun K hK => ?_) AllReady.nil)
        refine step_app tyS encS_ok o4_237 S (fun j u hu => cell_of_box t2_237 hu) rfl rfl (by rfl) (by rfl) HB237 (by decide) hl4 ?_
        intro g239 cap239 X239 oo_239 gg_239
        refine hK _ _ ?_
        clear hK K
        have M239 := M237.app o4_237 (.inl rfl) gg_239 HB237
        have HB239 := Nat.le_trans HB237 gg_239.size
        have o5_239 := o5_237.kept gg_239 (o5_237.type_ne o4_237 (by decide))
        have t6_239 := t6_237.kept gg_239 (t6_237.not_row (by decide) o4_237)
        clear c4 c5 f4 f5
        obtain ⟨c4, c5, f4, f5⟩ := mb4 M239 x4 x5
        simp only [Act.put, List.setIfInBounds_toArray, List.set_cons_zero, List.set_cons_succ]
        refine wpAny_ready (rs := [7]) (by kernel_rfl) (by simp) (AllReady.cons rfl (fun K hK => ?_) AllReady.nil)
        refine step_app tyI encI_ok o5_239 (k : Int) (fun j u hu => cell_of_box t6_239 hu) rfl rfl (by rfl) (by rfl) HB239 (by decide) hl5 ?_
        intro g240 cap240 X240 oo_240 gg_240
        refine hK _ _ ?_
        clear hK K
        have M240 := M239.app o5_239 (.inr rfl) gg_240 HB239
        have HB240 := Nat.le_trans HB239 gg_240.size
        have o4_240 := oo_239.kept gg_240 (oo_239.type_ne o5_239 (by decide))
        clear c4 c5 f4 f5
        obtain ⟨c4, c5, f4, f5⟩ := mb4 M240 x4 x5
        simp only [Act.put, List.setIfInBounds_toArray, List.set_cons_zero, List.set_cons_succ]
        refine wpAny_ready (rs := [8]) (by kernel_rfl) (by simp) (AllReady.cons rfl (fun K hK => ?_) AllReady.nil)
        go_simp
        refine hK _ _ ?_
        clear hK K
        refine wpAny_ready (rs := [9]) (by kernel_rfl) (by simp) (AllReady.cons rfl (fun K hK => ?_) AllReady.nil)
        go_simp
        refine hK _ _ ?_
        clear hK K
        refine wpAny_done (by kernel_rfl) ?_ _
        exact parse_fin hI x4 x5 hte hS hps hqs M240 HB240 o4_240 oo_240
   case done =>
    rintro D ys W hD rfl hI hK
    obtain ⟨v4, x4, o4⟩ := hI.b4
    obtain ⟨v5, x5, o5⟩ := hI.b5
    have c1 := hI.b1.cell
    have c2 := hI.b2.cell
    have c3 := hI.b3.cell
    have c4 := x4.cell
    have c5 := x5.cell
    have f1 := hI.b1.frozen
    have f2 := hI.b2.frozen
    have f3 := hI.b3.frozen
    obtain ⟨A4, n4, rfl⟩ := o4.slice
    obtain ⟨A5, n5, rfl⟩ := o5.slice
    gi_wp2
    gi_region
    gi_wp2
    have hsl : ((items 1 (0 :: l')).map fun x => strOfNums x.2).length = (items 1 (0 :: l')).length := by simp
    have hil : ((items 1 (0 :: l')).map fun x => ((x.1 : Nat) : Int)).length = (items 1 (0 :: l')).length := by simp
    rw [hsl] at o4
    rw [hil] at o5
    obtain ⟨t1, t2, t3, t4⟩ := three_set (.slice A4 (items 1 (0 :: l')).length n4) (.slice A5 (items 1 (0 :: l')).length n5) (.int .i64 0) hI.b1 hI.b2 hI.b3 hK
    refine ⟨by simp, .inl ⟨_, _, rfl, run_takeDeferred t1, ?_⟩⟩
    refine ⟨_, res3 t2 t3 t4 rfl rfl rfl, ?_⟩
    have hp : parT (0 :: l') = some ((items 1 (0 :: l')).map fun x => strOfNums x.2) := by
     rw [parT_items, if_pos]
     rw [List.all_eq_true]
     intro x hx
     have := hI.ne x hx
     cases h : x.2 <;> simp_all
    refine ⟨_, _, by rw [parE, parB, hp]; rfl, ?_, ?_⟩
    ·rw [parL, hp]
     rw [← hsl] at o4
     have k2 := hI.b2.kept (grownBy_setCell' W w.heap.size (.slice A4 (items 1 (0 :: l')).length n4)) (by simp)
     have k3 := (hI.b3.kept (grownBy_setCell' W w.heap.size (.slice A4 (items 1 (0 :: l')).length n4)) (by simp; omega)).kept (grownBy_setCell' _ (w.heap.size + 1) (.slice A5 (items 1 (0 :: l')).length n5)) (by simp)
     have o6 := own_set (v' := .slice A4 (items 1 (0 :: l')).length n4) o4 hI.b1 (by decide)
     have o7 := own_set (v' := .slice A5 (items 1 (0 :: l')).length n5) o6 k2 (by decide)
     have o8 := own_set (v' := .int .i64 0) o7 k3 (by decide)
     have o9 : OwnS _ w.heap.size _ _ := ownsRow_putObj (W := ((((W.setCell ⟨w.heap.size, 0, none⟩ (.slice A4 (items 1 (0 :: l')).length n4)).setCell ⟨w.heap.size + 1, 0, none⟩ (.slice A5 (items 1 (0 :: l')).length n5)).setCell ⟨w.heap.size + 1 + 1, 0, none⟩ (.int .i64 0)).drew)) o8 (.deferred none) t1 rfl
     rw [hsl] at o9
     exact o9.read (fun s hs => by
      obtain ⟨x, hx, rfl⟩ := List.mem_map.1 hs
      rw [strOfNums_size]
      have := items_bd (0 :: l') 1 [] x hx
      simp at this; simp at hl; omega) (by have hlen : (items 1 (0 :: l')).length ≤ ((0 : Int) :: l').length + 1 := items_len (0 :: l') 1 []; rw [List.length_map]; omega)
    ·have h4 := (((hI.ext.setCell (a := ⟨w.heap.size, 0, none⟩) (.slice A4 (items 1 (0 :: l')).length n4) (Nat.le_refl _)).setCell (a := ⟨w.heap.size + 1, 0, none⟩) (.slice A5 (items 1 (0 :: l')).length n5) (by simp)).setCell (a := ⟨w.heap.size + 1 + 1, 0, none⟩) (.int .i64 0) (by simp; omega)).drew
     exact h4.grown (grownBy_putObj' _ D (.deferred none)) (fun k e => by cases e; simp [hsz3] at hD; omega)
   case stop =>
    rintro D c pre W hD hp hX hK
    obtain rfl := hX.c
    have c1 := hX.b1
    gi_wp2
    refine ⟨by simp, .inl ⟨_, _, rfl, run_takeDeferred hK, ?_⟩⟩
    have g4 := grownBy_putObj' W D (.deferred none)
    have hr : ∀ r, some D = some r → 0 ≤ r ∧ ∃ o : Obj, W.heap[r]? = some o ∧ o.isCells = false := fun r e => by cases e; exact ⟨Nat.zero_le _, _, hK, rfl⟩
    refine ⟨_, res3 (box_keptRow hX.b1 g4 hr) (box_keptRow hX.b2 g4 hr) (box_keptRow hX.b3 g4 hr) rfl rfl rfl, ?_⟩
    have hpn : parT (0 :: l') = none := by
     rw [parT_items, if_neg]
     rw [List.all_eq_true]
     intro hall
     obtain ⟨x, hx, he⟩ := hX.bad
     have := hall x (hp.subset hx)
     rw [he] at this; cases this
    exact ⟨_, _, by rw [parE, parB, hpn]; rfl, by rw [parL, hpn]; exact Sl.nil _, hX.ext.grown g4 (fun k e => by cases e; simp [hsz3] at hD; omega)⟩
  ·have hne : (x != 0) = true := by simpa using hz
   have hp : parT (x :: l') = none := by simp [parT, hz]
   gi_wp2
   refine ⟨_, res3 (boxes3 w _ _ _).1 (boxes3 w _ _ _).2.1 (boxes3 w _ _ _).2.2 rfl rfl rfl, ?_⟩
   exact ⟨_, _, by rw [parE, parB, hp]; rfl, by rw [parL, hp]; exact Sl.nil _, ((Ext.new _ _).alloc _).alloc _⟩
end Go.Proofs.YtmofdnlefjfcfaaGreatDoor
