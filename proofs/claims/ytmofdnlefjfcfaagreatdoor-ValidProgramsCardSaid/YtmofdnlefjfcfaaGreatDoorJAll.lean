/- The layer slot: All of the program. -/
import Derived.Test.YtmofdnlefjfcfaaGreatDoorJStep
import Derived.Test.YtmofdnlefjfcfaaGreatDoorJNumsB
import Derived.Deep.QuietTactic
import Derived.BigQuiet
set_option linter.unusedVariables false
set_option linter.unusedSimpArgs false
namespace Go.Proofs.YtmofdnlefjfcfaaGreatDoor
open Go.RowKit Go.Lib Go.Shelf Go.Proofs
attribute [local go_sem] Oper.semAt_some

/-- Behind so many steps: the place, and the first error with its place. -/
def sumN (l : List (Ins × Int × Int)) : Int := (l.map (·.2.1)).sum
def allS : Int → List (Ins × Int × Int) → Int × Int
 | _, [] => (0, 0)
 | k, x :: l => if x.2.2 = 0 then allS (k + x.2.1) l else (k, x.2.2)
theorem allS_pre : ∀ (pre l : List (Ins × Int × Int)) (k : Int), (∀ x ∈ pre, x.2.2 = 0) → allS k (pre ++ l) = allS (k + sumN pre) l := by
 intro pre
 induction pre with
 | nil => intro l k _; simp [sumN]
 | cons x pre ih =>
  intro l k h
  rw [List.cons_append, allS, if_pos (h x (by simp)), ih _ _ (fun y hy => h y (by simp [hy]))]
  congr 1
  simp [sumN, Int.add_assoc]
def allE (b : List Int) : Int := (allS 0 (stepsN b)).2
def allAt (b : List Int) : Int := (allS 0 (stepsN b)).1
def allI (b : List Int) : List Ins := if allE b = 0 then (stepsN b).map (·.1) else []
theorem all_done {b : List Int} (h : ∀ x ∈ stepsN b, x.2.2 = 0) : allE b = 0 ∧ allAt b = 0 ∧ allI b = (stepsN b).map (·.1) := by
 have e := allS_pre (stepsN b) [] 0 h
 rw [List.append_nil] at e
 have hE : allE b = 0 := by unfold allE; rw [e]; rfl
 exact ⟨hE, by unfold allAt; rw [e]; rfl, by unfold allI; rw [if_pos hE]⟩
theorem all_bad {b : List Int} {pre : List (Ins × Int × Int)} {x : Ins × Int × Int} (hp : pre ++ [x] <+: stepsN b) (h : ∀ x ∈ pre, x.2.2 = 0) (hx : x.2.2 ≠ 0) : allE b = x.2.2 ∧ allAt b = sumN pre ∧ allI b = [] := by
 obtain ⟨t, ht⟩ := hp
 have e := allS_pre pre (x :: t) 0 h
 rw [show pre ++ x :: t = stepsN b by rw [← ht]; simp, allS, if_neg hx, Int.zero_add] at e
 have hE : allE b = x.2.2 := by unfold allE; rw [e]
 exact ⟨hE, by unfold allAt; rw [e], by unfold allI; rw [if_neg (by rw [hE]; exact hx)]⟩
theorem steps_in (F : Fence) (n : Nat) (hF : F.fn 104) (hro : F.round = none) (A : Option Addr) (m c : Nat) (w : World) :
  CallsIn F n Tryz.prog 104 #[.slice A m c] w fun e w' => e = .returned (.func (.func 138) #[] #[.pointer (some ⟨w.heap.size, 0, none⟩)]) ∧ w' = w.alloc (.cells #[.slice A m c] 28) := by
 refine callsIn_of_wp Tryz.func104 rfl hF ?_ hro
 simp only [Tryz.ntmps104, List.size_toArray, List.length_cons, List.length_nil, Nat.reduceAdd, Nat.reduceSub, Array.replicate_succ, Array.replicate_zero, List.push_toArray, List.append_toArray, List.nil_append, List.cons_append]
 gi_wp2
 go_ret
 exact ⟨rfl, rfl⟩
theorem steps_seq (n : Nat) (hn : 2 ≤ n) (B : Nat) (v : Value) (b : List Int) (hbl : b.length ≤ 1000000) (w6 w0 : World) (hB : Boxed w6 B 28 v) (hBl : B < w6.heap.size) (hv : IsB w0 v b) (hnB : w0.heap.size ≤ B) (hW0 : Ext w0 w6) (hO : OpsN w0) (hWd : WidN w0) :
  SeqB Fence.wide n Tryz.prog 138 #[.pointer (some ⟨B, 0, none⟩)] encSt (KpT w0.heap.size B) (fun ys => ys = stepsN b) (fun pre => pre <+: stepsN b) B w6 := fun l J Jx W hW hBk hJ _ hY h0 =>
 steps1_in n hn l B w0.heap.size v b hbl J Jx hY hJ W (hBk.trans hB) w0 hv rfl hnB (hW0.below.trans (hW.mono hW0.size)) hO hWd h0
structure AllI (w : World) (B : Nat) (pre : List (Ins × Int × Int)) (W : World) : Prop where
 ok : ∀ x ∈ pre, x.2.2 = 0
 sz : w.heap.size + 6 ≤ W.heap.size
 b1 : Boxed W B 45 (.slice none 0 0)
 b2 : Boxed W (B + 1) 3 (.int .i64 0)
 b3 : Boxed W (B + 1 + 1) 34 (.int .i64 0)
 b4 : ∃ v, Boxed W (B + 1 + 1 + 1) 45 v ∧ OwnN W (B + 1 + 1 + 1 + 1 + 1 + 1) v (pre.map (·.1))
 b5 : Boxed W (B + 1 + 1 + 1 + 1) 3 (.int .i64 (sumN pre))
 ext : Ext w W
theorem box_move {n₀ B : Nat} {W W' : World} {row : Option Nat} {b : Nat} {t : TypeId} {v : Value} (h : Boxed W b t v) (hg : W.grownBy W' row) (hm : MayMove n₀ B W row) (hne : b ≠ B) : Boxed W' b t v := by
 refine h.kept hg fun e => ?_
 rcases hm b e.symm with h1 | ⟨_, o, ho, hc⟩
 ·exact hne h1
 ·rw [show W.heap[b]? = _ from h] at ho; cases ho; cases hc
theorem own_move {α : Type} {e : TypeId} {sz : Nat} {enc : α → List Value} {W W' : World} {base : Nat} {v : Value} {l : List α} {row : Option Nat} {n₀ B : Nat} (h : Own e sz enc W base v l) (hg : W.grownBy W' row) (hm : MayMove n₀ B W row) (hB : B < base) : Own e sz enc W' base v l := by
 refine h.kept hg ?_
 rcases h.2 with ⟨rfl, _⟩ | ⟨g, cap, cur, rfl, hgb, hh, _⟩
 ·exact .inl rfl
 ·refine .inr fun er => ?_
  rcases hm g er.symm with h1 | ⟨_, o, ho, hc⟩
  ·omega
  ·rw [hh] at ho; cases ho; cases hc
theorem AllI.stays {w : World} {n₀ : Nat} (hn : w.heap.size ≤ n₀) : StaysB n₀ (w.heap.size + 1 + 1 + 1 + 1 + 1) (AllI w w.heap.size) := by
 intro s W W' row h hg hm
 obtain ⟨v, h4, h4'⟩ := h.b4
 exact ⟨h.ok, Nat.le_trans h.sz hg.size, box_move h.b1 hg hm (by omega), box_move h.b2 hg hm (by omega), box_move h.b3 hg hm (by omega), ⟨v, box_move h4 hg hm (by omega), own_move h4' hg hm (by omega)⟩, box_move h.b5 hg hm (by omega),
  h.ext.grown hg (fun k e => by rcases hm k e with h1 | ⟨h1, _⟩ <;> omega)⟩
structure AllX (w : World) (B : Nat) (c : Code) (pre : List (Ins × Int × Int)) (W : World) : Prop where
 c : c = .ret
 bad : ∃ p x, pre = p ++ [x] ∧ (∀ x ∈ p, x.2.2 = 0) ∧ x.2.2 ≠ 0 ∧ Boxed W (B + 1) 3 (.int .i64 (sumN p)) ∧ Boxed W (B + 1 + 1) 34 (.int .i64 x.2.2)
 b1 : Boxed W B 45 (.slice none 0 0)
 ext : Ext w W
theorem AllX.stays {w : World} {n₀ : Nat} (hn : w.heap.size ≤ n₀) (c : Code) : StaysB n₀ (w.heap.size + 1 + 1 + 1 + 1 + 1) (AllX w w.heap.size c) := by
 intro s W W' row h hg hm
 obtain ⟨p, x, h1, h2, h3, h4, h5⟩ := h.bad
 exact ⟨h.c, ⟨p, x, h1, h2, h3, box_move h4 hg hm (by omega), box_move h5 hg hm (by omega)⟩, box_move h.b1 hg hm (by omega), h.ext.grown hg (fun k e => by rcases hm k e with h1 | ⟨h1, _⟩ <;> omega)⟩
theorem all_err {w W : World} {pre : List (Ins × Int × Int)} (hI : AllI w w.heap.size pre W) (x : Ins × Int × Int) (hx : x.2.2 ≠ 0) :
  KeepsOthers W ((((W.setCell ⟨w.heap.size, 0, none⟩ (.slice none 0 0)).setCell ⟨w.heap.size + 1, 0, none⟩ (.int .i64 (sumN pre))).setCell ⟨w.heap.size + 1 + 1, 0, none⟩ (.int .i64 x.2.2)).drew) ∧
  AllX w w.heap.size .ret (pre ++ [x]) ((((W.setCell ⟨w.heap.size, 0, none⟩ (.slice none 0 0)).setCell ⟨w.heap.size + 1, 0, none⟩ (.int .i64 (sumN pre))).setCell ⟨w.heap.size + 1 + 1, 0, none⟩ (.int .i64 x.2.2)).drew) := by
 have g1 := grownBy_setCell' W w.heap.size (.slice none 0 0)
 have g2 := grownBy_setCell' (W.setCell ⟨w.heap.size, 0, none⟩ (.slice none 0 0)) (w.heap.size + 1) (.int .i64 (sumN pre))
 have g3 := grownBy_setCell' ((W.setCell ⟨w.heap.size, 0, none⟩ (.slice none 0 0)).setCell ⟨w.heap.size + 1, 0, none⟩ (.int .i64 (sumN pre))) (w.heap.size + 1 + 1) (.int .i64 x.2.2)
 refine ⟨(((KeepsOthers.setCell _ _ _).trans (KeepsOthers.setCell _ _ _)).trans (KeepsOthers.setCell _ _ _)).trans (KeepsOthers.drew _), rfl, ⟨pre, x, rfl, hI.ok, hx, ?_, ?_⟩, ?_, ?_⟩
 ·have z := ((hI.b2.kept g1 (by simp)).set (.int .i64 (sumN pre))).kept g3 (by simp)
  exact z
 ·have z := ((hI.b3.kept g1 (by simp <;> omega)).kept g2 (by simp)).set (.int .i64 x.2.2)
  exact z
 ·have z := ((hI.b1.set (.slice none 0 0)).kept g2 (by simp)).kept g3 (by simp <;> omega)
  exact z
 ·exact (((hI.ext.setCell (a := ⟨w.heap.size, 0, none⟩) _ (Nat.le_refl _)).setCell (a := ⟨w.heap.size + 1, 0, none⟩) _ (by simp)).setCell (a := ⟨w.heap.size + 1 + 1, 0, none⟩) _ (by simp <;> omega)).drew
theorem own_neV {α : Type} {e t : TypeId} {sz : Nat} {enc : α → List Value} {w : World} {B g : Nat} {v : Value} {l : List α} {xs : List Value} (h : Own e sz enc w B v l) (hne : e ≠ t) (k : RowV w g t xs) : some g ≠ v.ownBlock := by
 rcases h.2 with ⟨rfl, _⟩ | ⟨g', cap', cur', rfl, _, hh', _⟩
 ·simp [Value.ownBlock]
 ·intro he
  have : g = g' := by simpa [Value.ownBlock] using he
  subst this
  unfold RowV at k
  rw [hh'] at k
  injection k with k
  injection k with _ ht
  exact hne ht
theorem row_neB {w : World} {g b : Nat} {t t' : TypeId} {v : Value} {xs : List Value} (k : RowV w g t xs) (hb : Boxed w b t' v) (hne : t' ≠ t) : g ≠ b := by
 intro e
 subst e
 unfold RowV at k
 rw [show w.heap[g]? = _ from hb] at k
 injection k with k
 injection k with _ ht
 exact hne ht
theorem resA {w : World} {tmps : Array Value} {B1 B2 B3 : Nat} {v1 v2 v3 : Value} (b1 : Boxed w B1 45 v1) (b2 : Boxed w B2 3 v2) (b3 : Boxed w B3 34 v3)
  (h1 : tmps.getD 2 undef = .pointer (some ⟨B1, 0, none⟩)) (h2 : tmps.getD 3 undef = .pointer (some ⟨B2, 0, none⟩)) (h3 : tmps.getD 4 undef = .pointer (some ⟨B3, 0, none⟩)) :
  (results Tryz.f74 tmps).run Tryz.prog w = .ok (.tuple #[v1, v2, v3]) w :=
 results_ccc rfl h1 h2 h3 (run_loadVar_one Tryz.underlying45 rfl b1.cell) (run_loadVar_one Tryz.underlying3 rfl b2.cell) (run_loadVar_one Tryz.underlying34 rfl b3.cell)
theorem sumN_bd : ∀ l : List (Ins × Int × Int), (∀ x ∈ l, x.1.Ok ∧ 0 ≤ x.2.1 ∧ x.2.1 ≤ 2) → 0 ≤ sumN l ∧ sumN l ≤ 2 * (l.length : Int) := by
 intro l
 induction l with
 | nil => intro _; simp [sumN]
 | cons x l ih =>
  intro h
  have h1 := ih (fun y hy => h y (by simp [hy]))
  have h2 := (h x (by simp)).2
  simp only [sumN, List.map_cons, List.sum_cons, List.length_cons] at h1 ⊢
  omega
set_option maxRecDepth 100000 in
set_option maxHeartbeats 4000000 in
theorem slotAll_any (v : Value) (b : List Int) (w : World) (hv : IsB w v b) (hbl : b.length ≤ 1000000) (hO : OpsN w) (hWd : WidN w) :
  Calls Tryz.prog 74 #[v] w fun e w' => ∃ v', e = .returned (.tuple #[v', .int .i64 (allAt b), .int .i64 (allE b)]) ∧ IsIns w' v' (allI b) ∧ Ext w w' := by
 have hro : Fence.wide.round = none := rfl
 obtain ⟨A, c, rfl, hc, -, hv'⟩ := hv.form
 refine (callsIn_wide (n := 8)).1 ?_
 refine callsIn_of_wp_marks Tryz.func74 rfl trivial ?_ hro
 simp only [Tryz.ntmps74, List.size_toArray, List.length_cons, List.length_nil, Nat.reduceAdd, Nat.reduceSub, Array.replicate_succ, Array.replicate_zero, List.push_toArray, List.append_toArray, List.nil_append, List.cons_append]
 gi_wp2_with (first | (refine ⟨trivial, ?_⟩; gi_at_call 104; refine (steps_in Fence.wide _ trivial rfl _ _ _ _).mono ?_; rintro e w1 ⟨rfl, rfl⟩))
 obtain ⟨W6, hW6⟩ : ∃ W6, W6 = (((((w.alloc (.cells #[.slice none 0 0] 45)).alloc (.cells #[.int .i64 0] 3)).alloc (.cells #[.int .i64 0] 34)).alloc (.cells #[.slice none 0 0] 45)).alloc (.cells #[.int .i64 0] 3)).alloc (.cells #[.slice A b.length c] 28) := ⟨_, rfl⟩
 have b1 := Boxed.new w 45 (.slice none 0 0)
 have b2 := Boxed.new (w.alloc (.cells #[.slice none 0 0] 45)) 3 (.int .i64 0)
 have b3 := Boxed.new ((w.alloc (.cells #[.slice none 0 0] 45)).alloc (.cells #[.int .i64 0] 3)) 34 (.int .i64 0)
 have b4 := Boxed.new (((w.alloc (.cells #[.slice none 0 0] 45)).alloc (.cells #[.int .i64 0] 3)).alloc (.cells #[.int .i64 0] 34)) 45 (.slice none 0 0)
 have b5 := Boxed.new ((((w.alloc (.cells #[.slice none 0 0] 45)).alloc (.cells #[.int .i64 0] 3)).alloc (.cells #[.int .i64 0] 34)).alloc (.cells #[.slice none 0 0] 45)) 3 (.int .i64 0)
 have b6 := Boxed.new (((((w.alloc (.cells #[.slice none 0 0] 45)).alloc (.cells #[.int .i64 0] 3)).alloc (.cells #[.int .i64 0] 34)).alloc (.cells #[.slice none 0 0] 45)).alloc (.cells #[.int .i64 0] 3)) 28 (.slice A b.length c)
 simp only [World.size_alloc] at b2 b3 b4 b5 b6
 have e6 : Ext w W6 := by rw [hW6]; exact (((((Ext.new w _).alloc _).alloc _).alloc _).alloc _).alloc _
 replace b1 := ((((b1.alloc (.cells #[.int .i64 0] 3)).alloc (.cells #[.int .i64 0] 34)).alloc (.cells #[.slice none 0 0] 45)).alloc (.cells #[.int .i64 0] 3)).alloc (.cells #[.slice A b.length c] 28)
 replace b2 := (((b2.alloc (.cells #[.int .i64 0] 34)).alloc (.cells #[.slice none 0 0] 45)).alloc (.cells #[.int .i64 0] 3)).alloc (.cells #[.slice A b.length c] 28)
 replace b3 := ((b3.alloc (.cells #[.slice none 0 0] 45)).alloc (.cells #[.int .i64 0] 3)).alloc (.cells #[.slice A b.length c] 28)
 replace b4 := (b4.alloc (.cells #[.int .i64 0] 3)).alloc (.cells #[.slice A b.length c] 28)
 replace b5 := b5.alloc (.cells #[.slice A b.length c] 28)
 have hs6 : W6.heap.size = w.heap.size + 1 + 1 + 1 + 1 + 1 + 1 := by rw [hW6]; simp
 rw [← hW6] at b1 b2 b3 b4 b5 b6 ⊢
 clear hW6
 refine wpIn_rangeFunc_box hro (by omega) (gf := 138) (lb := #[.pointer (some ⟨w.heap.size + 1 + 1 + 1 + 1 + 1, 0, none⟩)]) rfl trivial (enters_of Tryz.func138 (by kernel_rfl) rfl) (B := w.heap.size + 1 + 1 + 1 + 1 + 1) (by omega)
  (steps_seq 7 (by omega) (w.heap.size + 1 + 1 + 1 + 1 + 1) (.slice A b.length c) b hbl W6 w b6 (by omega) hv (by omega) e6 hO hWd) KpT.trans
  (fun W l ob ob' h1 h2 _ _ => KpT.putObj (w := W6) ob' (by omega) (by omega) h1 h2) (fun _ => rfl)
  (AllI w w.heap.size) (AllX w w.heap.size) (AllI.stays (by omega)) (AllX.stays (by omega)) ⟨by simp, by omega, b1, b2, b3, ⟨_, b4, Own.nil _ _ _ _ _⟩, b5, e6⟩
  (fun pre x a' W => AllI w w.heap.size pre W ∧ ∃ g, a' = { tmps := #[.slice A b.length c, undef, .pointer (some ⟨w.heap.size, 0, none⟩), .pointer (some ⟨w.heap.size + 1, 0, none⟩), .pointer (some ⟨w.heap.size + 1 + 1, 0, none⟩), .pointer (some ⟨w.heap.size + 1 + 1 + 1, 0, none⟩), .pointer (some ⟨w.heap.size + 1 + 1 + 1 + 1, 0, none⟩),
   .pointer (some ⟨g, 0, none⟩), .slice A b.length c, .func (.func 138) #[] #[.pointer (some ⟨w.heap.size + 1 + 1 + 1 + 1 + 1, 0, none⟩)], .agg #[.int .i64 x.1.op, .bool x.1.reg, .int .i64 x.1.dst, .int .i64 x.1.src, .int .i64 x.1.off, .int .i64 x.1.imm, .int .i64 x.2.1, .int .i64 x.2.2],
   undef, undef, undef, undef, undef, undef, undef, undef, undef, undef, undef, undef, undef, undef, undef, undef], defers := [] } ∧ w.heap.size + 1 + 1 + 1 + 1 + 1 + 1 ≤ g ∧ RowV W g 174 [.int .i64 x.1.op, .bool x.1.reg, .int .i64 x.1.dst, .int .i64 x.1.src, .int .i64 x.1.off, .int .i64 x.1.imm, .int .i64 x.2.1, .int .i64 x.2.2])
  ?stays ?assign ?body ?done ?stop
 case stays =>
  intro x a' s W W' row h hg hm
  obtain ⟨h1, g, h2, h3, h4⟩ := h
  refine ⟨AllI.stays (by omega) s W W' row h1 hg hm, g, h2, h3, h4.keep hg fun e => ?_⟩
  rcases hm g e.symm with h5 | ⟨_, o, ho, hc⟩
  ·omega
  ·rw [show W.heap[g]? = _ from h4] at ho; cases ho; cases hc
 case assign =>
  intro l pre x W hI hlt
  simp only [encSt]
  gi_wp2
  have hsz := hI.sz
  exact ⟨ko_ext (Ext.new _ _), ⟨(Ext.new _ _).below.mono (by omega), (Ext.new _ _).block (by omega)⟩, AllI.stays (Nat.le_refl _) _ _ _ none hI ((Ext.new _ _).toGrown none) (fun r e => by cases e), W.heap.size, rfl, by omega, RowV.new _ _ _⟩
 case body =>
  rintro l pre ⟨⟨op, reg, n1, n2, n3, n4⟩, dn, de⟩ a' W ⟨hI, g, rfl, hg, hr⟩ hlt
  dsimp only at hr
  have k0 := hr.cell (i := 0) rfl
  have k1 := hr.cell (i := 1) rfl
  have k2 := hr.cell (i := 2) rfl
  have k3 := hr.cell (i := 3) rfl
  have k4 := hr.cell (i := 4) rfl
  have k5 := hr.cell (i := 5) rfl
  have k6 := hr.cell (i := 6) rfl
  have k7 := hr.cell (i := 7) rfl
  have c1 := hI.b1.cell
  have c2 := hI.b2.cell
  have c3 := hI.b3.cell
  have c5 := hI.b5.cell
  have f1 := hI.b1.frozen
  have f2 := hI.b2.frozen
  have f3 := hI.b3.frozen
  have f5 := hI.b5.frozen
  by_cases hde : de = 0
  ·subst hde
   obtain ⟨v, x4, o4⟩ := hI.b4
   have c4 := x4.cell
   have hpl : pre.length ≤ 1000001 := by
    have h1 := hlt.length_le
    have h2 := stepsN_len b
    rw [List.length_append] at h1
    omega
   have hbd := stepsN_bd hv.byt
   have hx2 := hbd _ (hlt.subset (by simp : ((⟨op, reg, n1, n2, n3, n4⟩ : Ins), dn, (0 : Int)) ∈ pre ++ [(⟨op, reg, n1, n2, n3, n4⟩, dn, 0)]))
   have hsb := sumN_bd pre (fun x hx => hbd x (hlt.subset (by simp [hx])))
   have hdn := hx2.2
   dsimp only at hdn
   have hsum : sumN (pre ++ [((⟨op, reg, n1, n2, n3, n4⟩ : Ins), dn, (0 : Int))]) = sumN pre + dn := by simp [sumN]
   have hwr : wrap64 (sumN pre + dn) = sumN pre + dn := wrapL _ (by omega) (by omega)
   have hlm : (pre.map fun x : Ins × Int × Int => x.1).length = pre.length := List.length_map _
   have hl4 : ((pre.map fun x : Ins × Int × Int => x.1).length + 1) * 48 ≤ 140737488355328 := by rw [hlm]; omega
   have hsz := hI.sz
   obtain ⟨A4, c4', rfl⟩ := o4.slice
   generalize hps : (pre.map fun x : Ins × Int × Int => x.1) = ps at *
   have HSUM := hx hsum
   have HPS := hx hps
   have HSB := hx hsb
   have HX2 := hx hx2
   have HLM := hx hlm
   have HL4 := hx hl4
   clear hsum hps hsb hx2 hlm hl4 hbd
   gi_wp2_with (gi_at_builtin; refine wp_app1I tyN encN_ok o4 ⟨op, reg, n1, n2, n3, n4⟩ rfl rfl rfl rfl rfl (by omega) (by decide) HL4.out ?_; intro g1 cap w1 o3 hg1 hat1 hbg1; have x3 := x4.kept hg1 (x4.not_row (by decide) o4); have y3 := x3.frozen; have y4 := x3.cell; have x5 := hI.b5.kept hg1 (hI.b5.not_row (by decide) o4); have r3 := hr.keep hg1 (own_neV o4 (by decide) hr); have g9 := grownBy_setCell' w1 (w.heap.size + 1 + 1 + 1) (.slice (some ⟨g1, 0, none⟩) (ps.length + 1) cap); have z5 := x5.kept g9 (by simp); have q5 := z5.cell; have p5 := z5.frozen; have z6 := r3.keep g9 (fun e => row_neB r3 x3 (by decide) (by injection e)); have q6 := z6.cell (i := 6) rfl)
   have g10 := grownBy_setCell' (w1.setCell ⟨w.heap.size + 1 + 1 + 1, 0, none⟩ (.slice (some ⟨g1, 0, none⟩) (ps.length + 1) cap)) (w.heap.size + 1 + 1 + 1 + 1) (.int .i64 ((sumN pre) + dn))
   have hob : ∀ k, (Value.slice A4 ps.length c4').ownBlock = some k → w.heap.size + 1 + 1 + 1 + 1 + 1 + 1 ≤ k := o4.base_le
   have eb := ((((Below.refl w.heap.size W).grown hg1 (by omega) (fun k e => by have := hob k e; omega)).setCell (p := ⟨w.heap.size + 1 + 1 + 1, 0, none⟩) (by simp <;> omega) (.slice (some ⟨g1, 0, none⟩) (ps.length + 1) cap)).setCell (p := ⟨w.heap.size + 1 + 1 + 1 + 1, 0, none⟩) (by simp <;> omega) (.int .i64 ((sumN pre) + dn)))
   have hBb : ((w1.setCell ⟨w.heap.size + 1 + 1 + 1, 0, none⟩ (.slice (some ⟨g1, 0, none⟩) (ps.length + 1) cap)).setCell ⟨w.heap.size + 1 + 1 + 1 + 1, 0, none⟩ (.int .i64 ((sumN pre) + dn))).heap[w.heap.size + 1 + 1 + 1 + 1 + 1]? = W.heap[w.heap.size + 1 + 1 + 1 + 1 + 1]? := by
    have h1 := hg1.block (w.heap.size + 1 + 1 + 1 + 1 + 1) (by omega) (fun e => by have := hob _ e.symm; omega)
    have hs1 := hg1.size
    have h2 := g9.block (w.heap.size + 1 + 1 + 1 + 1 + 1) (by omega) (by simp <;> omega)
    have h3 := g10.block (w.heap.size + 1 + 1 + 1 + 1 + 1) (Nat.lt_of_lt_of_le (by omega) g9.size) (by simp <;> omega)
    exact h3.trans (h2.trans h1)
   have hok : ∀ x ∈ pre ++ [((⟨op, reg, n1, n2, n3, n4⟩ : Ins), dn, (0 : Int))], x.2.2 = 0 := by
    intro x hx
    rw [List.mem_append] at hx
    rcases hx with hx | hx
    ·exact hI.ok x hx
    ·rw [List.mem_singleton] at hx; rw [hx]
   refine ⟨((ko_own o4 hg1).trans (KeepsOthers.setCell _ _ _)).trans (KeepsOthers.setCell _ _ _), ⟨eb, hBb⟩, hok, Nat.le_trans hI.sz (Nat.le_trans hg1.size (Nat.le_trans g9.size g10.size)), ((hI.b1.kept hg1 (hI.b1.not_row (by decide) o4)).kept g9 (by simp <;> omega)).kept g10 (by simp <;> omega),
    ((hI.b2.kept hg1 (hI.b2.not_row (by decide) o4)).kept g9 (by simp <;> omega)).kept g10 (by simp <;> omega), ((hI.b3.kept hg1 (hI.b3.not_row (by decide) o4)).kept g9 (by simp <;> omega)).kept g10 (by simp <;> omega), ⟨_, (x3.set _).kept g10 (by simp), ?_⟩, ?_, Below.trans hI.ext eb⟩
   ·rw [List.map_append, HPS.out]
    exact own_set (own_set o3 x3 (by decide)) z5 (by decide)
   ·rw [HSUM.out]; exact z5.set _
  ·have hde' : (de != 0) = true := by simpa using hde
   have HDE := hx hde
   clear hde
   have hmx : Tryz.prog.follows .mixedOrders = true := by kernel_rfl
   have hfin := all_err hI (⟨op, reg, n1, n2, n3, n4⟩, dn, de) HDE.out
   dsimp only at hfin
   have HFIN := hx hfin
   clear hfin
   gi_wp2
   gi_region_with_o (fail)
   all_goals
    gi_wp2
    exact HFIN.out
 case done =>
  rintro D ys W hD rfl hI hK
  obtain ⟨v, h4, h4'⟩ := hI.b4
  obtain ⟨A4, c4', rfl⟩ := h4'.slice
  have c4 := h4.cell
  have c1 := hI.b1.cell
  have c2 := hI.b2.cell
  have c3 := hI.b3.cell
  have f1 := hI.b1.frozen
  have f2 := hI.b2.frozen
  have f3 := hI.b3.frozen
  gi_wp2
  have hDl : W6.heap.size ≤ D := hD
  have g1 := grownBy_setCell' W w.heap.size (.slice A4 (stepsN b).length c4')
  have g2 := grownBy_setCell' (W.setCell ⟨w.heap.size, 0, none⟩ (.slice A4 (stepsN b).length c4')) (w.heap.size + 1) (.int .i64 0)
  have g3 := grownBy_setCell' ((W.setCell ⟨w.heap.size, 0, none⟩ (.slice A4 (stepsN b).length c4')).setCell ⟨w.heap.size + 1, 0, none⟩ (.int .i64 0)) (w.heap.size + 1 + 1) (.int .i64 0)
  have hDs := (Array.getElem?_eq_some_iff.1 hK).1
  have K1 := (g1.block D hDs (by simp; omega)).trans hK
  have K2 := (g2.block D (Nat.lt_of_lt_of_le hDs g1.size) (by simp; omega)).trans K1
  have K3 := (g3.block D (Nat.lt_of_lt_of_le hDs (Nat.le_trans g1.size g2.size)) (by simp; omega)).trans K2
  obtain ⟨hE, hAt, hAl⟩ := all_done hI.ok
  rw [List.length_map] at h4 h4'
  have z1 : Boxed _ w.heap.size 45 _ := (((hI.b1.set (.slice A4 (stepsN b).length c4')).kept g2 (by simp)).kept g3 (by simp <;> omega))
  have z2 : Boxed _ (w.heap.size + 1) 3 _ := (((hI.b2.kept g1 (by simp)).set (.int .i64 0)).kept g3 (by simp))
  have z3 : Boxed _ (w.heap.size + 1 + 1) 34 _ := (((hI.b3.kept g1 (by simp <;> omega)).kept g2 (by simp)).set (.int .i64 0))
  have o1 := own_set (v' := .slice A4 (stepsN b).length c4') h4' hI.b1 (by decide)
  have o2 := own_set (v' := .int .i64 0) o1 (hI.b2.kept g1 (by simp)) (by decide)
  have o3 := own_set (v' := .int .i64 0) o2 ((hI.b3.kept g1 (by simp <;> omega)).kept g2 (by simp)) (by decide)
  have e3 := ((hI.ext.setCell (a := ⟨w.heap.size, 0, none⟩) (.slice A4 (stepsN b).length c4') (Nat.le_refl _)).setCell (a := ⟨w.heap.size + 1, 0, none⟩) (.int .i64 0) (by simp)).setCell (a := ⟨w.heap.size + 1 + 1, 0, none⟩) (.int .i64 0) (by simp <;> omega)
  refine ⟨by simp, .inl ⟨_, _, rfl, run_takeDeferred K3, ?_⟩⟩
  have g4 := grownBy_putObj' (((W.setCell ⟨w.heap.size, 0, none⟩ (.slice A4 (stepsN b).length c4')).setCell ⟨w.heap.size + 1, 0, none⟩ (.int .i64 0)).setCell ⟨w.heap.size + 1 + 1, 0, none⟩ (.int .i64 0)) D (.deferred none)
  have hr : ∀ r, some D = some r → 0 ≤ r ∧ ∃ o : Obj, (((W.setCell ⟨w.heap.size, 0, none⟩ (.slice A4 (stepsN b).length c4')).setCell ⟨w.heap.size + 1, 0, none⟩ (.int .i64 0)).setCell ⟨w.heap.size + 1 + 1, 0, none⟩ (.int .i64 0)).heap[r]? = some o ∧ o.isCells = false := fun r e => by cases e; exact ⟨Nat.zero_le _, _, K3, rfl⟩
  refine ⟨_, resA (box_keptRow z1 g4 hr) (box_keptRow z2 g4 hr) (box_keptRow z3 g4 hr) rfl rfl rfl, ?_⟩
  have o5 := o3.keptRow g4 hr
  have hsl := stepsN_len b
  refine ⟨_, by rw [hAt, hE], ?_, e3.grown g4 (fun k e => by cases e; omega)⟩
  rw [hAl]
  have hrd := o5.read encN_ok (E := EIns) (by rw [List.length_map]; omega) fun x hx b o h => ⟨⟨by simpa using h 0 _ rfl, h 1 _ rfl, h 2 _ rfl, h 3 _ rfl, h 4 _ rfl, h 5 _ rfl⟩, by
   obtain ⟨y, hy, rfl⟩ := List.mem_map.1 hx
   exact (stepsN_bd hv.byt y hy).1⟩
  exact hrd
 case stop =>
  rintro D c pre W hD hp hX hK
  obtain rfl := hX.c
  have hDl : W6.heap.size ≤ D := hD
  obtain ⟨p, x, rfl, hok, hbad, z2, z3⟩ := hX.bad
  have z1 := hX.b1
  obtain ⟨hE, hAt, hAl⟩ := all_bad hp hok hbad
  gi_wp2
  refine ⟨by simp, .inl ⟨_, _, rfl, run_takeDeferred hK, ?_⟩⟩
  have g4 := grownBy_putObj' W D (.deferred none)
  have hr : ∀ r, some D = some r → 0 ≤ r ∧ ∃ o : Obj, W.heap[r]? = some o ∧ o.isCells = false := fun r e => by cases e; exact ⟨Nat.zero_le _, _, hK, rfl⟩
  refine ⟨_, resA (box_keptRow z1 g4 hr) (box_keptRow z2 g4 hr) (box_keptRow z3 g4 hr) rfl rfl rfl, ?_⟩
  exact ⟨_, by rw [hAt, hE], by rw [hAl]; exact Sl.nil _, hX.ext.grown g4 (fun k e => by cases e; omega)⟩
end Go.Proofs.YtmofdnlefjfcfaaGreatDoor


set_option linter.unusedVariables false
set_option linter.unusedSimpArgs false
namespace Go.Proofs.YtmofdnlefjfcfaaGreatDoor
open Go.RowKit Go.Lib Go.Shelf Go.Proofs
attribute [local go_sem] Oper.semAt_some

/-- The slots of instructions, all together. -/
def slotsT (l : List Ins) : Int := (l.map fun x => slotsN x.op).sum
theorem slotsT_snoc (l : List Ins) (x : Ins) : slotsT (l ++ [x]) = slotsT l + slotsN x.op := by simp [slotsT]
theorem slotsT_take {l : List Ins} {k : Nat} {x : Ins} (h : l[k]? = some x) : slotsT (l.take (k + 1)) = slotsT (l.take k) + slotsN x.op := by
 rw [List.take_add_one, h]
 exact slotsT_snoc _ _
theorem slotsT_bd (l : List Ins) : 0 ≤ slotsT l ∧ slotsT l ≤ 2 * (l.length : Int) := by
 induction l with
 | nil => simp [slotsT]
 | cons x l ih =>
  have h := slotsN_cases x.op
  simp only [slotsT, List.map_cons, List.sum_cons, List.length_cons] at ih ⊢
  omega
/-- The slots at which they start. -/
def startsL (l : List Ins) : List Int := (List.range l.length).map fun i => slotsT (l.take i)
def layI (l : List Ins) : List (Int × Int) := (List.range l.length).map fun i => (slotsT (l.take i), slotsT (l.take (i + 1)))
theorem layI_length (l : List Ins) : (layI l).length = l.length := by simp [layI]
theorem layI_get {l : List Ins} {k : Nat} (h : k < l.length) : (layI l)[k]? = some (slotsT (l.take k), slotsT (l.take (k + 1))) := by simp [layI, h]
theorem layI_fst (l : List Ins) : (layI l).map (·.1) = startsL l := by simp [layI, startsL]
theorem startsL_get {l : List Ins} {k : Nat} (h : k < l.length) : (startsL l)[k]? = some (slotsT (l.take k)) := by simp [startsL, h]
theorem startsL_length (l : List Ins) : (startsL l).length = l.length := by simp [startsL]
def encLy (x : Int × Int) : Array Value := #[.int .i64 x.1, .int .i64 x.2]
theorem isIns_below {n₀ : Nat} {w W : World} {v : Value} {l : List Ins} (h : IsIns w v l) (hb : Below n₀ w W) (hn : w.heap.size ≤ n₀) : IsIns W v l := Sl.ext h fun b o x k => by
 have go : ∀ {a : Addr} {u : Value}, w.cell? a = some u → W.cell? a = some u := fun hc => (Below.cell hb (Nat.lt_of_lt_of_le (World.block_lt_of_cell? w _ hc) hn)).trans hc
 exact ⟨⟨go k.1.1, go k.1.2.1, go k.1.2.2.1, go k.1.2.2.2.1, go k.1.2.2.2.2.1, go k.1.2.2.2.2.2⟩, k.2⟩
set_option maxRecDepth 100000 in
set_option maxHeartbeats 4000000 in
theorem slots1_in (n : Nat) (hn : 2 ≤ n) (l B n₀ : Nat) (v : Value) (L : List Ins) (hL : L.length ≤ 1000000) (J Jx : List (Int × Int) → World → Prop)
  (hY : ∀ pre x W, J pre W → pre ++ [x] <+: layI L → YieldAt Fence.wide (n - 1) Tryz.prog l (encLy x) W fun e W' =>
   (e = .returned (.bool true) ∧ J (pre ++ [x]) W' ∧ KpT n₀ B W W') ∨ (e = .returned (.bool false) ∧ Jx (pre ++ [x]) W'))
  (hJ : MovesB B J) (W : World) (hB : Boxed W B 45 v) (w0 : World) (hv : IsIns w0 v L) (hw0 : w0.heap.size = n₀) (hnB : n₀ ≤ B) (hW0 : Below n₀ w0 W) (hO : OpsN w0) (h0 : J [] W) :
  CallsIn Fence.wide n Tryz.prog 116 #[.func (.yield l) #[] #[], .pointer (some ⟨B, 0, none⟩)] W fun e W' => (∃ v, e = .returned v) ∧
   ((∃ ys, ys = layI L ∧ J ys W') ∨ (∃ pre, pre <+: layI L ∧ Jx pre W')) := by
 obtain ⟨A, c, rfl, hc, -, hv'⟩ := hv.form
 refine callsIn_of_wp Tryz.func116 rfl trivial ?_ rfl
 simp only [Tryz.ntmps116, List.size_toArray, List.length_cons, List.length_nil, Nat.reduceAdd, Nat.reduceSub, Array.replicate_succ, Array.replicate_zero, List.push_toArray, List.append_toArray, List.nil_append, List.cons_append]
 have h1n : 1 ≤ n := by omega
 have hcell0 := hB.cell
 gi_wp2
 gi_loopw [3, 9] (fun from_ i wr => ∃ k : Nat, i = .int .i64 (k : Nat) ∧ from_ = .int .i64 (slotsT (L.take k)) ∧ k ≤ L.length ∧ J ((layI L).take k) wr ∧ Boxed wr B 45 (.slice A L.length c) ∧ Below n₀ w0 wr)
  (fun _ i _ => L.length - (RowKit.intOf i).toNat)
 case atStart => exact ⟨0, rfl, by simp [slotsT], by omega, by simpa using h0, hB, hW0⟩
 case round =>
  obtain ⟨k, rfl, rfl, hk, hJ1, hBx, hbe⟩ := hrel
  by_cases hlt : k < L.length
  ·obtain ⟨x, hx⟩ : ∃ x, L[k]? = some x := ⟨_, List.getElem?_eq_getElem hlt⟩
   obtain ⟨b0, o, rfl, hE⟩ := (isIns_below hv' hbe (Nat.le_of_eq hw0)).get hx
   obtain ⟨⟨k0, k1, k2, k3, k4, k5⟩, hok⟩ := hE
   have hsx := slotsT_take hx
   have hbd := slotsT_bd (L.take (k + 1))
   have hll : (L.take (k + 1)).length ≤ k + 1 := by rw [List.length_take]; omega
   have hwr : wrap64 (slotsT (L.take k) + slotsN x.op) = slotsT (L.take (k + 1)) := by rw [← hsx]; exact wrapL _ (by omega) (by omega)
   have hpre : (layI L).take k ++ [(slotsT (L.take k), slotsT (L.take (k + 1)))] = (layI L).take (k + 1) := by rw [List.take_add_one (l := layI L), layI_get hlt]; rfl
   have hSl := fun W1 (h : OpsN W1) => insnSlots_any x.op W1 hok.op h
   have hYk : ∀ W1, J ((layI L).take k) W1 → YieldAt Fence.wide (n - 1) Tryz.prog l #[.int .i64 (slotsT (L.take k)), .int .i64 (slotsT (L.take (k + 1)))] W1 fun e W' =>
     (e = .returned (.bool true) ∧ J ((layI L).take (k + 1)) W' ∧ KpT n₀ B W1 W') ∨ (e = .returned (.bool false) ∧ Jx ((layI L).take (k + 1)) W') := fun W1 h => by
    have := hY ((layI L).take k) (slotsT (L.take k), slotsT (L.take (k + 1))) W1 h (by rw [hpre]; exact List.take_prefix _ _)
    rw [hpre] at this
    exact this
   have hopb := ops_below hO (hbe.trans ((Ext.new wr (.cells #[.int .i64 x.op, .bool x.reg, .int .i64 x.dst, .int .i64 x.src, .int .i64 x.off, .int .i64 x.imm] 53)).below.mono (by have := hbe.size; omega))) (Nat.le_of_eq hw0)
   have HSL := Go.Proofs.YtmofdnlefjfcfaaGreatDoor.hx (hSl _ hopb)
   generalize slotsT (L.take k) = S1 at *
   generalize hS2 : slotsT (L.take (k + 1)) = S2 at *
   have HS2 := Go.Proofs.YtmofdnlefjfcfaaGreatDoor.hx hS2
   clear hS2
   generalize slotsN x.op = sx at *
   have HYk := Go.Proofs.YtmofdnlefjfcfaaGreatDoor.hx hYk
   clear hYk hpre hbd hll hsx hx hSl hopb
   obtain ⟨op, reg, n1, n2, n3, n4⟩ := x
   dsimp only at *
   gi_wp2_with (first | (refine ⟨trivial, ?_⟩; gi_at_call 54; refine (callsIn_wide.2 HSL.out).mono ?_; rintro e w1 ⟨rfl, e1⟩; have hJ2 := hJ _ _ w1 none hJ1 (((Ext.new wr _).trans e1).toGrown none) (.inl rfl); obtain ⟨fn, tmps, assign, body, hy, hR⟩ := HYk.out w1 hJ2))
   refine hR.mono ?_
   rintro e W3 (⟨rfl, hJ3, hk3⟩ | ⟨rfl, hJx3⟩)
   ·have e2 := (Ext.new wr (.cells #[.int .i64 op, .bool reg, .int .i64 n1, .int .i64 n2, .int .i64 n3, .int .i64 n4] 53)).trans e1
    have hBx3 : Boxed W3 B 45 (.slice (some ⟨b0, o, none⟩) L.length c) := hk3.2.trans (e2.obj hBx)
    have hbe3 := (hbe.trans (e2.below.mono (by have := hbe.size; omega))).trans hk3.1
    gi_wp2
    go_roundw
    case rel => exact ⟨k + 1, by simp, by rw [HS2.out], by omega, hJ3, hBx3, hbe3⟩
    case measure => simp [RowKit.intOf]; omega
   ·gi_wp2
    refine bodyPost_ret (results_none rfl _ _ _) rfl ?_
    exact ⟨⟨_, rfl⟩, .inr ⟨_, List.take_prefix _ _, hJx3⟩⟩
  ·have hkk : k = L.length := by omega
   subst hkk
   rw [List.take_of_length_le (by rw [layI_length]; omega)] at hJ1
   gi_wp2
   go_end0
   exact ⟨⟨_, rfl⟩, .inl ⟨_, rfl, hJ1⟩⟩
theorem slots_in (F : Fence) (n : Nat) (hF : F.fn 90) (hro : F.round = none) (A : Option Addr) (m c : Nat) (w : World) :
  CallsIn F n Tryz.prog 90 #[.slice A m c] w fun e w' => e = .returned (.func (.func 116) #[] #[.pointer (some ⟨w.heap.size, 0, none⟩)]) ∧ w' = w.alloc (.cells #[.slice A m c] 45) := by
 refine callsIn_of_wp Tryz.func90 rfl hF ?_ hro
 simp only [Tryz.ntmps90, List.size_toArray, List.length_cons, List.length_nil, Nat.reduceAdd, Nat.reduceSub, Array.replicate_succ, Array.replicate_zero, List.push_toArray, List.append_toArray, List.nil_append, List.cons_append]
 gi_wp2
 go_ret
 exact ⟨rfl, rfl⟩
theorem slots_seq (n : Nat) (hn : 2 ≤ n) (B : Nat) (v : Value) (L : List Ins) (hL : L.length ≤ 1000000) (w3 w0 : World) (hB : Boxed w3 B 45 v) (hBl : B < w3.heap.size) (hv : IsIns w0 v L) (hnB : w0.heap.size ≤ B) (hW0 : Ext w0 w3) (hO : OpsN w0) :
  SeqB Fence.wide n Tryz.prog 116 #[.pointer (some ⟨B, 0, none⟩)] encLy (KpT w0.heap.size B) (fun ys => ys = layI L) (fun pre => pre <+: layI L) B w3 := fun l J Jx W hW hBk hJ _ hY h0 =>
 slots1_in n hn l B w0.heap.size v L hL J Jx hY hJ W (hBk.trans hB) w0 hv rfl hnB (hW0.below.trans (hW.mono hW0.size)) hO h0
def endY (l : List (Int × Int)) : Int := (l.getLast?.map (·.2)).getD 0
structure LayI (w : World) (B : Nat) (pre : List (Int × Int)) (W : World) : Prop where
 sz : w.heap.size + 3 ≤ W.heap.size
 b4 : ∃ v, Boxed W B 66 v ∧ OwnI W (B + 1 + 1 + 1) v (pre.map (·.1))
 b5 : Boxed W (B + 1) 3 (.int .i64 (endY pre))
 ext : Ext w W
theorem LayI.stays {w : World} {n₀ : Nat} (hn : w.heap.size ≤ n₀) : StaysB n₀ (w.heap.size + 1 + 1) (LayI w w.heap.size) := by
 intro s W W' row h hg hm
 obtain ⟨v, h4, h4'⟩ := h.b4
 exact ⟨Nat.le_trans h.sz hg.size, ⟨v, box_move h4 hg hm (by omega), own_move h4' hg hm (by omega)⟩, box_move h.b5 hg hm (by omega), h.ext.grown hg (fun k e => by rcases hm k e with h1 | ⟨h1, _⟩ <;> omega)⟩
theorem own_set2 {α : Type} {sz : Nat} {e : TypeId} {enc : α → List Value} {W : World} {base b : Nat} {v v' : Value} {l : List α} (h : Own e sz enc W base v l) (hb : b < base) : Own e sz enc (W.setCell ⟨b, 0, none⟩ v') base v l :=
 h.kept (grownBy_setCell' W b v') (by
  rcases h.2 with ⟨rfl, _⟩ | ⟨g, cap, cur, rfl, hgb, _⟩
  ·exact .inl rfl
  ·refine .inr fun e => ?_
   have : g = b := by simpa [Value.ownBlock] using e
   omega)
set_option maxRecDepth 100000 in
set_option maxHeartbeats 4000000 in
theorem Starts_own (v : Value) (L : List Ins) (w : World) (hv : IsIns w v L) (hL : L.length ≤ 1000000) (hO : OpsN w) :
  Calls Tryz.prog 53 #[v] w fun e w' => ∃ v', e = .returned (.tuple #[v', .int .i64 (slotsT L)]) ∧ OwnI w' w.heap.size v' (startsL L) ∧ Ext w w' := by
 have hro : Fence.wide.round = none := rfl
 obtain ⟨A, c, rfl, hc, -, hv'⟩ := hv.form
 refine (callsIn_wide (n := 8)).1 ?_
 refine callsIn_of_wp_marks Tryz.func53 rfl trivial ?_ hro
 simp only [Tryz.ntmps53, List.size_toArray, List.length_cons, List.length_nil, Nat.reduceAdd, Nat.reduceSub, Array.replicate_succ, Array.replicate_zero, List.push_toArray, List.append_toArray, List.nil_append, List.cons_append]
 gi_wp2_with (first | (refine ⟨trivial, ?_⟩; gi_at_call 90; refine (slots_in Fence.wide _ trivial rfl _ _ _ _).mono ?_; rintro e w1 ⟨rfl, rfl⟩))
 obtain ⟨W6, hW6⟩ : ∃ W6, W6 = ((w.alloc (.cells #[.slice none 0 0] 66)).alloc (.cells #[.int .i64 0] 3)).alloc (.cells #[.slice A L.length c] 45) := ⟨_, rfl⟩
 have b4 := Boxed.new w 66 (.slice none 0 0)
 have b5 := Boxed.new (w.alloc (.cells #[.slice none 0 0] 66)) 3 (.int .i64 0)
 have b6 := Boxed.new ((w.alloc (.cells #[.slice none 0 0] 66)).alloc (.cells #[.int .i64 0] 3)) 45 (.slice A L.length c)
 simp only [World.size_alloc] at b5 b6
 have e6 : Ext w W6 := by rw [hW6]; exact ((Ext.new w _).alloc _).alloc _
 replace b4 := (b4.alloc (.cells #[.int .i64 0] 3)).alloc (.cells #[.slice A L.length c] 45)
 replace b5 := b5.alloc (.cells #[.slice A L.length c] 45)
 have hs6 : W6.heap.size = w.heap.size + 1 + 1 + 1 := by rw [hW6]; simp
 rw [← hW6] at b4 b5 b6 ⊢
 clear hW6
 refine wpIn_rangeFunc_box hro (by omega) (gf := 116) (lb := #[.pointer (some ⟨w.heap.size + 1 + 1, 0, none⟩)]) rfl trivial (enters_of Tryz.func116 (by kernel_rfl) rfl) (B := w.heap.size + 1 + 1) (by omega)
  (slots_seq 7 (by omega) (w.heap.size + 1 + 1) (.slice A L.length c) L hL W6 w b6 (by omega) hv (by omega) e6 hO) KpT.trans
  (fun W l ob ob' h1 h2 _ _ => KpT.putObj (w := W6) ob' (by omega) (by omega) h1 h2) (fun _ => rfl)
  (LayI w w.heap.size) (fun _ _ _ => False) (LayI.stays (by omega)) (fun _ _ _ _ _ h _ _ => h) ⟨by omega, ⟨_, b4, Own.nil _ _ _ _ _⟩, b5, e6⟩
  (fun pre x a' W => LayI w w.heap.size pre W ∧ a' = { tmps := #[.slice A L.length c, undef, .slice none 0 0, .int .i64 0, .pointer (some ⟨w.heap.size, 0, none⟩), .pointer (some ⟨w.heap.size + 1, 0, none⟩), .int .i64 x.1, .int .i64 x.2, .slice A L.length c,
   .func (.func 116) #[] #[.pointer (some ⟨w.heap.size + 1 + 1, 0, none⟩)], .int .i64 x.1, .int .i64 x.2, undef, undef, undef, undef, undef, undef, undef], defers := [] })
  ?stays ?assign ?body ?done ?stop
 case stays =>
  intro x a' s W W' row h hg hm
  exact ⟨LayI.stays (by omega) s W W' row h.1 hg hm, h.2⟩
 case assign =>
  intro l pre x W hI hlt
  simp only [encLy]
  gi_wp2
  exact ⟨ko_ext (Ext.refl _), KpT.refl _ _ _, hI, trivial⟩
 case body =>
  rintro l pre ⟨fr, tt⟩ a' W ⟨hI, rfl⟩ hlt
  obtain ⟨v, x4, o4⟩ := hI.b4
  have c4 := x4.cell
  have f4 := x4.frozen
  have f5 := hI.b5.frozen
  have c5 := hI.b5.cell
  have hpl : pre.length ≤ 1000000 := by
   have h1 := hlt.length_le
   rw [List.length_append, layI_length] at h1
   omega
  have hlm : (pre.map fun x : Int × Int => x.1).length = pre.length := List.length_map _
  have hl4 : ((pre.map fun x : Int × Int => x.1).length + 1) * 8 ≤ 140737488355328 := by rw [hlm]; omega
  have hsz := hI.sz
  obtain ⟨A4, c4', rfl⟩ := o4.slice
  generalize hps : (pre.map fun x : Int × Int => x.1) = ps at *
  have HPS := hx hps
  have HLM := hx hlm
  have HL4 := hx hl4
  clear hps hlm hl4
  gi_wp2_with (gi_at_builtin; refine wp_app1I tyI encI_ok o4 fr rfl rfl rfl rfl rfl (by omega) (by decide) HL4.out ?_; intro g1 cap w1 o3 hg1 hat1 hbg1; have x3 := x4.kept hg1 (x4.not_row (by decide) o4); have y3 := x3.frozen; have y4 := x3.cell; have x5 := hI.b5.kept hg1 (fun e => by have := o4.base_le _ e.symm; omega); have g9 := grownBy_setCell' w1 w.heap.size (.slice (some ⟨g1, 0, none⟩) (ps.length + 1) cap); have z5 := x5.kept g9 (by simp); have q5 := z5.cell; have p5 := z5.frozen)
  have g10 := grownBy_setCell' (w1.setCell ⟨w.heap.size, 0, none⟩ (.slice (some ⟨g1, 0, none⟩) (ps.length + 1) cap)) (w.heap.size + 1) (.int .i64 tt)
  have hob : ∀ k, (Value.slice A4 ps.length c4').ownBlock = some k → w.heap.size + 1 + 1 + 1 ≤ k := o4.base_le
  have eb := ((((Below.refl w.heap.size W).grown hg1 (by omega) (fun k e => by have := hob k e; omega)).setCell (p := ⟨w.heap.size, 0, none⟩) (Nat.le_refl _) (.slice (some ⟨g1, 0, none⟩) (ps.length + 1) cap)).setCell (p := ⟨w.heap.size + 1, 0, none⟩) (by simp) (.int .i64 tt))
  have hBb : ((w1.setCell ⟨w.heap.size, 0, none⟩ (.slice (some ⟨g1, 0, none⟩) (ps.length + 1) cap)).setCell ⟨w.heap.size + 1, 0, none⟩ (.int .i64 tt)).heap[w.heap.size + 1 + 1]? = W.heap[w.heap.size + 1 + 1]? := by
   have h1 := hg1.block (w.heap.size + 1 + 1) (by omega) (fun e => by have := hob _ e.symm; omega)
   have hs1 := hg1.size
   have h2 := g9.block (w.heap.size + 1 + 1) (by omega) (by simp <;> omega)
   have h3 := g10.block (w.heap.size + 1 + 1) (Nat.lt_of_lt_of_le (by omega) g9.size) (by simp <;> omega)
   exact h3.trans (h2.trans h1)
  refine ⟨((ko_own o4 hg1).trans (KeepsOthers.setCell _ _ _)).trans (KeepsOthers.setCell _ _ _), ⟨eb, hBb⟩, Nat.le_trans hI.sz (Nat.le_trans hg1.size (Nat.le_trans g9.size g10.size)), ⟨_, (x3.set _).kept g10 (by simp), ?_⟩, ?_, Below.trans hI.ext eb⟩
  ·rw [List.map_append, HPS.out]
   exact own_set2 (own_set o3 x3 (by decide)) (by omega)
  ·have : endY (pre ++ [(fr, tt)]) = tt := by simp [endY]
   rw [this]; exact z5.set _
 case done =>
  rintro D ys W hD rfl hI hK
  obtain ⟨v, h4, h4'⟩ := hI.b4
  obtain ⟨A4, c4', rfl⟩ := h4'.slice
  have c4 := h4.cell
  have c5 := hI.b5.cell
  have hmx : Tryz.prog.follows .mixedOrders = true := by kernel_rfl
  gi_wp2
  gi_region
  gi_wp2
  have K2 : W.drew.heap[D]? = some (.deferred (some [])) := hK
  have I2 : LayI w w.heap.size (layI L) W.drew := LayI.stays (Nat.le_refl _) _ _ _ none hI (((Ext.refl W).drew).toGrown none) (fun r e => by cases e)
  have h5 : OwnI W.drew (w.heap.size + 1 + 1 + 1) (.slice A4 ((layI L).map (·.1)).length c4') ((layI L).map (·.1)) := h4'
  generalize W.drew = Wd at *
  refine ⟨by simp, .inl ⟨_, _, rfl, run_takeDeferred K2, ?_⟩⟩
  refine ⟨_, results_tmp2 rfl _ _ _, ?_⟩
  have g4 := grownBy_putObj' Wd D (.deferred none)
  have hr : ∀ r, some D = some r → 0 ≤ r ∧ ∃ o : Obj, Wd.heap[r]? = some o ∧ o.isCells = false := fun r e => by cases e; exact ⟨Nat.zero_le _, _, K2, rfl⟩
  have o5 := h5.keptRow g4 hr
  have hend : endY (layI L) = slotsT L := by
   unfold endY
   rcases Nat.eq_zero_or_pos L.length with h0 | h0
   ·have : L = [] := List.eq_nil_of_length_eq_zero h0
    subst this; rfl
   ·rw [List.getLast?_eq_getElem?, layI_length, layI_get (by omega)]
    simp only [Option.map_some, Option.getD_some]
    rw [List.take_of_length_le (by omega)]
  refine ⟨_, by rw [← hend]; rfl, ?_, I2.ext.grown g4 (fun k e => by cases e; omega)⟩
  have o6 : OwnI _ w.heap.size _ _ := ownsRow_base o5 (by omega)
  rw [layI_fst] at o6
  rw [show (layI L).length = (startsL L).length by rw [layI_length, startsL_length]]
  exact o6
 case stop =>
  rintro D c pre W hD hp hX hK
  exact hX.elim
theorem OwnI.starts {w : World} {b : Nat} {v : Value} {L : List Ins} (h : OwnI w b v (startsL L)) (hL : L.length ≤ 1000000) : IsInts w v (startsL L) :=
 Own.read encI_ok h (E := EInt) (by rw [startsL_length]; omega) fun x hx b o h => ⟨by simpa using h 0 _ rfl, by
  obtain ⟨i, _, rfl⟩ := List.mem_map.1 hx
  have h1 := slotsT_bd (L.take i)
  have h2 : (L.take i).length ≤ L.length := by rw [List.length_take]; omega
  unfold I64; omega⟩
theorem Starts_any (v : Value) (L : List Ins) (w : World) (hv : IsIns w v L) (hL : L.length ≤ 1000000) (hO : OpsN w) :
  Calls Tryz.prog 53 #[v] w fun e w' => ∃ v', e = .returned (.tuple #[v', .int .i64 (slotsT L)]) ∧ IsInts w' v' (startsL L) ∧ Ext w w' :=
 (Starts_own v L w hv hL hO).mono fun e w' h => by
  obtain ⟨v', h1, h2, h3⟩ := h
  exact ⟨v', h1, h2.starts hL, h3⟩
end Go.Proofs.YtmofdnlefjfcfaaGreatDoor


set_option linter.unusedVariables false
set_option linter.unusedSimpArgs false
namespace Go.Proofs.YtmofdnlefjfcfaaGreatDoor
open Go.RowKit

set_option maxRecDepth 40000 in
set_option maxHeartbeats 4000000 in
theorem refStart_any (v : Value) (L : List Ins) (m : Nat) (w : World) (hv : IsIns w v L) (hL : L.length ≤ 1000000) (hm : m ≤ L.length) :
  Calls Tryz.prog 46 #[v, .int .i64 (m : Nat)] w fun e w' => e = .returned (.int .i64 (slotsT (L.take m))) ∧ w' = w := by
 obtain ⟨A, c, rfl, hc, -, hv'⟩ := hv.form
 go_enter Tryz.func46, Tryz.ntmps46
 go_wp2
 go_loop [5, 6] (fun s i => ∃ k : Nat, k ≤ m ∧ i = .int .i64 (k : Nat) ∧ s = .int .i64 (slotsT (L.take k))) (fun _ i => m - (RowKit.intOf i).toNat)
 case atStart => exact ⟨0, by omega, rfl, by simp [slotsT]⟩
 case round =>
  obtain ⟨k, hk, rfl, rfl⟩ := hrel
  by_cases hlt : k < m
  ·have hkL : k < L.length := by omega
   obtain ⟨x, hx⟩ : ∃ x, L[k]? = some x := ⟨_, List.getElem?_eq_getElem hkL⟩
   obtain ⟨b0, o, rfl, hE⟩ := hv'.get hx
   obtain ⟨⟨k0, k1, k2, k3, k4, k5⟩, hok⟩ := hE
   have hsx := slotsT_take hx
   have hbd := slotsT_bd (L.take (k + 1))
   have hll : (L.take (k + 1)).length ≤ k + 1 := by rw [List.length_take]; omega
   have hwr : wrap64 (slotsT (L.take k) + slotsN x.op) = slotsT (L.take (k + 1)) := by rw [← hsx]; exact wrapL _ (by omega) (by omega)
   have HSL := Go.Proofs.YtmofdnlefjfcfaaGreatDoor.hx fun W => ref04Slots_any x.op W hok.op
   have HWR := Go.Proofs.YtmofdnlefjfcfaaGreatDoor.hx hwr
   generalize slotsT (L.take k) = S1 at *
   generalize slotsN x.op = sx at *
   clear hsx hbd hll hx k1 k2 k3 k4 k5 hwr
   go_wp2_with (go_at_call 45; refine (HSL.out _).mono ?_; rintro e w1 ⟨rfl, rfl⟩)
   go_round
   case rel => exact ⟨k + 1, by omega, by go_num, by rw [HWR.out]⟩
   case measure => simp [RowKit.intOf]; omega
  ·obtain rfl : k = m := by omega
   go_wp2
   go_ret
   exact ⟨rfl, rfl⟩
/-- The instruction that starts at a slot. -/
def atN (L : List Ins) (s : Int) : Int := match (List.range L.length).findSome? (fun i => if slotsT (L.take i) = s then some (i : Int) else none) with | some i => i | none => -1
theorem atN_hit {L : List Ins} {s : Int} {k : Nat} (hk : k < L.length) (hn : ∀ j, j < k → slotsT (L.take j) ≠ s) (h : slotsT (L.take k) = s) : atN L s = k := by
 unfold atN
 rw [range_first (fun i => if slotsT (L.take i) = s then some (i : Int) else none) L.length k (k : Int) hk (fun j hj => if_neg (hn j hj)) (if_pos h)]
end Go.Proofs.YtmofdnlefjfcfaaGreatDoor


set_option linter.unusedVariables false
set_option linter.unusedSimpArgs false
namespace Go.Proofs.YtmofdnlefjfcfaaGreatDoor
open Go.RowKit

def OffOk (L : List Ins) : Prop := ∀ x ∈ L, -1000000 ≤ x.off ∧ x.off ≤ 1000000
/-- The index to which a jump leads, or -1. -/
def tgtN (L : List Ins) (i : Nat) : Int := atN L (slotsT (L.take (i + 1)) + (L.getD i default).off)
def tgtAt (L : List Ins) (i : Nat) : Int := if jumpsX (L.getD i default) then tgtN L i else -1
def tgtBadAt (L : List Ins) (i : Nat) : Bool := jumpsX (L.getD i default) && decide (tgtN L i < 0)
def tgtBad (L : List Ins) : Int := match (List.range L.length).findSome? (fun i => if tgtBadAt L i then some (i : Int) else none) with | some i => i | none => -1
def tgtL (L : List Ins) : List Int := if tgtBad L = -1 then (List.range L.length).map (tgtAt L) else []
theorem tgtBad_hit {L : List Ins} {k : Nat} (hk : k < L.length) (hn : ∀ j, j < k → tgtBadAt L j = false) (h : tgtBadAt L k = true) : tgtBad L = k := by
 unfold tgtBad
 rw [range_first (fun i => if tgtBadAt L i then some (i : Int) else none) L.length k (k : Int) hk (fun j hj => if_neg (by rw [hn j hj]; simp)) (if_pos h)]
theorem tgtBad_none {L : List Ins} (hn : ∀ j, j < L.length → tgtBadAt L j = false) : tgtBad L = -1 := by
 unfold tgtBad
 have : (List.range L.length).findSome? (fun i => if tgtBadAt L i then some (i : Int) else none) = none := by
  rw [List.findSome?_eq_none_iff]
  intro x hx
  exact if_neg (by rw [hn x (by simpa using hx)]; simp)
 rw [this]
theorem atN_bd (L : List Ins) (s : Int) : -1 ≤ atN L s ∧ atN L s < (L.length : Int) + 1 := by
 unfold atN
 split
 ·rename_i r h
  obtain ⟨k, hk, hr⟩ := List.exists_of_findSome?_eq_some h
  have hk' : k < L.length := by simpa using hk
  split at hr
  ·injection hr with hr; omega
  ·cases hr
 ·omega
end Go.Proofs.YtmofdnlefjfcfaaGreatDoor
