/- The layer strtab: Parse. -/
import Derived.Test.YtmnbalbiehlkpaaGreatDoorJRefChkE
import Derived.Deep.RegionHeld3
set_option linter.unusedVariables false
set_option linter.unusedSimpArgs false
namespace Go.Proofs.YtmnbalbiehlkpaaGreatDoor
open Go.RowKit Go.Lib Go.Shelf Go.Proofs
attribute [local go_sem] Oper.semAt_some

theorem not_cells {W : World} {row : Option Nat} {B r : Nat} {cs : Array Value} {t : TypeId} {fr : Nat × Nat} (h : W.heap[r]? = some (.cells cs t fr)) (hr : ∀ r, row = some r → B ≤ r ∧ ∃ o : Obj, W.heap[r]? = some o ∧ o.isCells = false) : some r ≠ row := by
 intro e
 obtain ⟨_, o, ho, hc⟩ := hr r e.symm
 rw [h] at ho; cases ho; cases hc
theorem box_keptRow {W W' : World} {row : Option Nat} {B b : Nat} {t : TypeId} {v : Value} (h : Boxed W b t v) (hg : W.grownBy W' row) (hr : ∀ r, row = some r → B ≤ r ∧ ∃ o : Obj, W.heap[r]? = some o ∧ o.isCells = false) : Boxed W' b t v :=
 h.kept hg (not_cells h hr)
theorem Own.keptRow {α : Type} {e : TypeId} {sz : Nat} {enc : α → List Value} {W W' : World} {base : Nat} {v : Value} {l : List α} {row : Option Nat} {B : Nat} (h : Own e sz enc W base v l) (hg : W.grownBy W' row)
  (hr : ∀ r, row = some r → B ≤ r ∧ ∃ o : Obj, W.heap[r]? = some o ∧ o.isCells = false) : Own e sz enc W' base v l := by
 refine h.kept hg ?_
 rcases h.2 with ⟨rfl, _⟩ | ⟨g, cap, cur, rfl, _, hh, _⟩
 ·exact .inl rfl
 ·exact .inr (not_cells hh hr)
/-- Parse between two rounds. -/
structure ParI (w : World) (B : Nat) (bv : Value) (pre : List (Nat × List Int)) (W : World) : Prop where
 ne : ∀ x ∈ pre, x.2 ≠ []
 b1 : Boxed W B 51 (.slice none 0 0)
 b2 : Boxed W (B + 1) 43 (.slice none 0 0)
 b3 : Boxed W (B + 1 + 1) 36 (.int .i64 0)
 b4 : ∃ v, Boxed W (B + 1 + 1 + 1) 51 v ∧ OwnS W B v (pre.map fun x => strOfNums x.2)
 b5 : ∃ v, Boxed W (B + 1 + 1 + 1 + 1) 43 v ∧ OwnI W B v (pre.map fun x => ((x.1 : Nat) : Int))
 b6 : Boxed W (B + 1 + 1 + 1 + 1 + 1) 26 bv
 ext : Ext w W
theorem ParI.own {w : World} {B : Nat} {bv : Value} {B0 : Nat} (hB : w.heap.size ≤ B0) : OwnFrom B0 (ParI w B bv) := by
 intro s W W' row h hg hr
 obtain ⟨v, h4, h4'⟩ := h.b4
 obtain ⟨u, h5, h5'⟩ := h.b5
 exact ⟨h.ne, box_keptRow h.b1 hg hr, box_keptRow h.b2 hg hr, box_keptRow h.b3 hg hr, ⟨v, box_keptRow h4 hg hr, h4'.keptRow hg hr⟩, ⟨u, box_keptRow h5 hg hr, h5'.keptRow hg hr⟩, box_keptRow h.b6 hg hr, h.ext.grown hg (fun k e => Nat.le_trans hB (hr k e).1)⟩
structure ParX (w : World) (B : Nat) (c : Code) (pre : List (Nat × List Int)) (W : World) : Prop where
 c : c = .ret
 bad : ∃ x ∈ pre, x.2 = []
 b1 : Boxed W B 51 (.slice none 0 0)
 b2 : Boxed W (B + 1) 43 (.slice none 0 0)
 b3 : Boxed W (B + 1 + 1) 36 (.int .i64 19)
 ext : Ext w W
theorem ParX.own {w : World} {B : Nat} {c : Code} {B0 : Nat} (hB : w.heap.size ≤ B0) : OwnFrom B0 (ParX w B c) := by
 intro s W W' row h hg hr
 exact ⟨h.c, h.bad, box_keptRow h.b1 hg hr, box_keptRow h.b2 hg hr, box_keptRow h.b3 hg hr, h.ext.grown hg (fun k e => Nat.le_trans hB (hr k e).1)⟩
end Go.Proofs.YtmnbalbiehlkpaaGreatDoor
