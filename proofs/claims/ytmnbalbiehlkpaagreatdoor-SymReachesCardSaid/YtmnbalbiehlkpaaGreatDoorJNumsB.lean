/- The layer object: numbers. -/
import Derived.Test.YtmnbalbiehlkpaaGreatDoorJObj
set_option linter.unusedVariables false
set_option linter.unusedSimpArgs false
namespace Go.Proofs.YtmnbalbiehlkpaaGreatDoor
open Go.RowKit Go.Lib Go.Shelf Go.Proofs
attribute [local go_sem] Oper.semAt_some

def ERow (w : World) (b o : Nat) (x : List Int) : Prop := (∃ g, w.cell? ⟨b, o, none⟩ = some (.slice (some ⟨g, 0, none⟩) x.length x.length) ∧ RowI w g x) ∧ ∀ y ∈ x, 0 ≤ y ∧ y < 4294967296
theorem ERow.ext {w w' : World} {b o : Nat} {x : List Int} (h : ERow w b o x) (he : Ext w w') : ERow w' b o x := by
 obtain ⟨⟨g, h1, h2⟩, h3⟩ := h
 exact ⟨⟨g, he.cell h1, h2.ext he⟩, h3⟩
abbrev IsRows := Sl 1 ERow
theorem IsRows.ext {w w' : World} {v : Value} {l : List (List Int)} (h : IsRows w v l) (he : Ext w w') : IsRows w' v l := Sl.ext h fun _ _ _ k => k.ext he
theorem RowI.keptRow {W W' : World} {g B : Nat} {l : List Int} {row : Option Nat} (h : RowI W g l) (hg : W.grownBy W' row) (hr : ∀ r, row = some r → B ≤ r ∧ ∃ o : Obj, W.heap[r]? = some o ∧ o.isCells = false) : RowI W' g l :=
 h.keep hg (not_cells h hr)
theorem Sl.conv {α β : Type} {sz : Nat} {E : World → Nat → Nat → α → Prop} {E' : World → Nat → Nat → β → Prop} {w : World} {v : Value} {xs : List α} {ys : List β} (h : Sl sz E w v xs) (hl : ys.length = xs.length)
  (he : ∀ (i : Nat) x y, xs[i]? = some x → ys[i]? = some y → ∀ b o, E w b o x → E' w b o y) : Sl sz E' w v ys := by
 obtain ⟨A, c, h1, h2, h3, hn, h4⟩ := h
 refine ⟨A, c, by rw [hl]; exact h1, by rw [hl]; exact h2, by rw [hl]; exact h3, hn, fun i y hy => ?_⟩
 have hi : i < xs.length := by rw [← hl]; exact (List.getElem?_eq_some_iff.1 hy).1
 obtain ⟨b, o, hA, hE⟩ := h4 i _ (List.getElem?_eq_getElem hi)
 exact ⟨b, o, hA, he i _ y (List.getElem?_eq_getElem hi) hy _ _ hE⟩
end Go.Proofs.YtmnbalbiehlkpaaGreatDoor
