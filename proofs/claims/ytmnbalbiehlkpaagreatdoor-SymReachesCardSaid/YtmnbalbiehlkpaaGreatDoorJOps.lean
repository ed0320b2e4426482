/- The layer ops: the table, its rows, and the functions that read it. -/
import Derived.Test.YtmnbalbiehlkpaaGreatDoorJTab
import Derived.Laws.Tables
import Derived.Great.Walk
import Derived.Laws.Rows
set_option linter.unusedVariables false
set_option linter.unusedSimpArgs false
namespace Go.Proofs.YtmnbalbiehlkpaaGreatDoor
open Go.RowKit

structure OpRow where
 name : ByteArray
 form : Int
 bits : Int
 code : Int
 src : Int
 off : Int
 imm : Int
def OpRow.enc (r : OpRow) : List Value := [.string r.name, .int .i64 r.form, .int .i64 r.bits, .int .u8 r.code, .int .i64 r.src, .int .i64 r.off, .int .i64 r.imm]
def opRows : List OpRow := [
 ⟨⟨#[97, 100, 100, 54, 52]⟩, 0, 64, 7, 0, 0, 0⟩,
 ⟨⟨#[115, 117, 98, 54, 52]⟩, 0, 64, 23, 0, 0, 0⟩,
 ⟨⟨#[109, 117, 108, 54, 52]⟩, 0, 64, 39, 0, 0, 0⟩,
 ⟨⟨#[100, 105, 118, 54, 52]⟩, 0, 64, 55, 0, 0, 0⟩,
 ⟨⟨#[111, 114, 54, 52]⟩, 0, 64, 71, 0, 0, 0⟩,
 ⟨⟨#[97, 110, 100, 54, 52]⟩, 0, 64, 87, 0, 0, 0⟩,
 ⟨⟨#[108, 115, 104, 54, 52]⟩, 0, 64, 103, 0, 0, 0⟩,
 ⟨⟨#[114, 115, 104, 54, 52]⟩, 0, 64, 119, 0, 0, 0⟩,
 ⟨⟨#[109, 111, 100, 54, 52]⟩, 0, 64, 151, 0, 0, 0⟩,
 ⟨⟨#[120, 111, 114, 54, 52]⟩, 0, 64, 167, 0, 0, 0⟩,
 ⟨⟨#[109, 111, 118, 54, 52]⟩, 0, 64, 183, 0, 0, 0⟩,
 ⟨⟨#[97, 114, 115, 104, 54, 52]⟩, 0, 64, 199, 0, 0, 0⟩,
 ⟨⟨#[115, 100, 105, 118, 54, 52]⟩, 0, 64, 55, 0, 1, 0⟩,
 ⟨⟨#[115, 109, 111, 100, 54, 52]⟩, 0, 64, 151, 0, 1, 0⟩,
 ⟨⟨#[97, 100, 100, 51, 50]⟩, 0, 32, 4, 0, 0, 0⟩,
 ⟨⟨#[115, 117, 98, 51, 50]⟩, 0, 32, 20, 0, 0, 0⟩,
 ⟨⟨#[109, 117, 108, 51, 50]⟩, 0, 32, 36, 0, 0, 0⟩,
 ⟨⟨#[100, 105, 118, 51, 50]⟩, 0, 32, 52, 0, 0, 0⟩,
 ⟨⟨#[111, 114, 51, 50]⟩, 0, 32, 68, 0, 0, 0⟩,
 ⟨⟨#[97, 110, 100, 51, 50]⟩, 0, 32, 84, 0, 0, 0⟩,
 ⟨⟨#[108, 115, 104, 51, 50]⟩, 0, 32, 100, 0, 0, 0⟩,
 ⟨⟨#[114, 115, 104, 51, 50]⟩, 0, 32, 116, 0, 0, 0⟩,
 ⟨⟨#[109, 111, 100, 51, 50]⟩, 0, 32, 148, 0, 0, 0⟩,
 ⟨⟨#[120, 111, 114, 51, 50]⟩, 0, 32, 164, 0, 0, 0⟩,
 ⟨⟨#[109, 111, 118, 51, 50]⟩, 0, 32, 180, 0, 0, 0⟩,
 ⟨⟨#[97, 114, 115, 104, 51, 50]⟩, 0, 32, 196, 0, 0, 0⟩,
 ⟨⟨#[115, 100, 105, 118, 51, 50]⟩, 0, 32, 52, 0, 1, 0⟩,
 ⟨⟨#[115, 109, 111, 100, 51, 50]⟩, 0, 32, 148, 0, 1, 0⟩,
 ⟨⟨#[110, 101, 103, 54, 52]⟩, 1, 64, 135, 0, 0, 0⟩,
 ⟨⟨#[110, 101, 103, 51, 50]⟩, 1, 32, 132, 0, 0, 0⟩,
 ⟨⟨#[109, 111, 118, 115, 98, 54, 52]⟩, 2, 64, 191, 0, 8, 0⟩,
 ⟨⟨#[109, 111, 118, 115, 104, 54, 52]⟩, 2, 64, 191, 0, 16, 0⟩,
 ⟨⟨#[109, 111, 118, 115, 119, 54, 52]⟩, 2, 64, 191, 0, 32, 0⟩,
 ⟨⟨#[109, 111, 118, 115, 98, 51, 50]⟩, 2, 32, 188, 0, 8, 0⟩,
 ⟨⟨#[109, 111, 118, 115, 104, 51, 50]⟩, 2, 32, 188, 0, 16, 0⟩,
 ⟨⟨#[108, 101, 49, 54]⟩, 1, 16, 212, 0, 0, 16⟩,
 ⟨⟨#[108, 101, 51, 50]⟩, 1, 32, 212, 0, 0, 32⟩,
 ⟨⟨#[108, 101, 54, 52]⟩, 1, 64, 212, 0, 0, 64⟩,
 ⟨⟨#[98, 101, 49, 54]⟩, 1, 16, 220, 0, 0, 16⟩,
 ⟨⟨#[98, 101, 51, 50]⟩, 1, 32, 220, 0, 0, 32⟩,
 ⟨⟨#[98, 101, 54, 52]⟩, 1, 64, 220, 0, 0, 64⟩,
 ⟨⟨#[98, 115, 119, 97, 112, 49, 54]⟩, 1, 16, 215, 0, 0, 16⟩,
 ⟨⟨#[98, 115, 119, 97, 112, 51, 50]⟩, 1, 32, 215, 0, 0, 32⟩,
 ⟨⟨#[98, 115, 119, 97, 112, 54, 52]⟩, 1, 64, 215, 0, 0, 64⟩,
 ⟨⟨#[106, 97]⟩, 3, 0, 5, 0, 0, 0⟩,
 ⟨⟨#[106, 101, 113]⟩, 4, 64, 21, 0, 0, 0⟩,
 ⟨⟨#[106, 103, 116]⟩, 4, 64, 37, 0, 0, 0⟩,
 ⟨⟨#[106, 103, 101]⟩, 4, 64, 53, 0, 0, 0⟩,
 ⟨⟨#[106, 115, 101, 116]⟩, 4, 64, 69, 0, 0, 0⟩,
 ⟨⟨#[106, 110, 101]⟩, 4, 64, 85, 0, 0, 0⟩,
 ⟨⟨#[106, 115, 103, 116]⟩, 4, 64, 101, 0, 0, 0⟩,
 ⟨⟨#[106, 115, 103, 101]⟩, 4, 64, 117, 0, 0, 0⟩,
 ⟨⟨#[106, 108, 116]⟩, 4, 64, 165, 0, 0, 0⟩,
 ⟨⟨#[106, 108, 101]⟩, 4, 64, 181, 0, 0, 0⟩,
 ⟨⟨#[106, 115, 108, 116]⟩, 4, 64, 197, 0, 0, 0⟩,
 ⟨⟨#[106, 115, 108, 101]⟩, 4, 64, 213, 0, 0, 0⟩,
 ⟨⟨#[106, 101, 113, 51, 50]⟩, 4, 32, 22, 0, 0, 0⟩,
 ⟨⟨#[106, 103, 116, 51, 50]⟩, 4, 32, 38, 0, 0, 0⟩,
 ⟨⟨#[106, 103, 101, 51, 50]⟩, 4, 32, 54, 0, 0, 0⟩,
 ⟨⟨#[106, 115, 101, 116, 51, 50]⟩, 4, 32, 70, 0, 0, 0⟩,
 ⟨⟨#[106, 110, 101, 51, 50]⟩, 4, 32, 86, 0, 0, 0⟩,
 ⟨⟨#[106, 115, 103, 116, 51, 50]⟩, 4, 32, 102, 0, 0, 0⟩,
 ⟨⟨#[106, 115, 103, 101, 51, 50]⟩, 4, 32, 118, 0, 0, 0⟩,
 ⟨⟨#[106, 108, 116, 51, 50]⟩, 4, 32, 166, 0, 0, 0⟩,
 ⟨⟨#[106, 108, 101, 51, 50]⟩, 4, 32, 182, 0, 0, 0⟩,
 ⟨⟨#[106, 115, 108, 116, 51, 50]⟩, 4, 32, 198, 0, 0, 0⟩,
 ⟨⟨#[106, 115, 108, 101, 51, 50]⟩, 4, 32, 214, 0, 0, 0⟩,
 ⟨⟨#[99, 97, 108, 108]⟩, 5, 0, 133, 0, 0, 0⟩,
 ⟨⟨#[101, 120, 105, 116]⟩, 6, 0, 149, 0, 0, 0⟩,
 ⟨⟨#[108, 100, 120, 98]⟩, 7, 8, 113, 0, 0, 0⟩,
 ⟨⟨#[108, 100, 120, 104]⟩, 7, 16, 105, 0, 0, 0⟩,
 ⟨⟨#[108, 100, 120, 119]⟩, 7, 32, 97, 0, 0, 0⟩,
 ⟨⟨#[108, 100, 120, 100, 119]⟩, 7, 64, 121, 0, 0, 0⟩,
 ⟨⟨#[108, 100, 120, 115, 98]⟩, 7, 8, 145, 0, 0, 0⟩,
 ⟨⟨#[108, 100, 120, 115, 104]⟩, 7, 16, 137, 0, 0, 0⟩,
 ⟨⟨#[108, 100, 120, 115, 119]⟩, 7, 32, 129, 0, 0, 0⟩,
 ⟨⟨#[115, 116, 98]⟩, 8, 8, 114, 0, 0, 0⟩,
 ⟨⟨#[115, 116, 104]⟩, 8, 16, 106, 0, 0, 0⟩,
 ⟨⟨#[115, 116, 119]⟩, 8, 32, 98, 0, 0, 0⟩,
 ⟨⟨#[115, 116, 100, 119]⟩, 8, 64, 122, 0, 0, 0⟩,
 ⟨⟨#[115, 116, 120, 98]⟩, 9, 8, 115, 0, 0, 0⟩,
 ⟨⟨#[115, 116, 120, 104]⟩, 9, 16, 107, 0, 0, 0⟩,
 ⟨⟨#[115, 116, 120, 119]⟩, 9, 32, 99, 0, 0, 0⟩,
 ⟨⟨#[115, 116, 120, 100, 119]⟩, 9, 64, 123, 0, 0, 0⟩,
 ⟨⟨#[108, 100, 100, 119]⟩, 10, 64, 24, 0, 0, 0⟩,
 ⟨⟨#[108, 100, 109, 97, 112]⟩, 11, 64, 24, 1, 0, 0⟩]
def opTab : Array Value := (opRows.flatMap OpRow.enc).toArray
def opZero : Array Value := (opRows.flatMap fun _ => (⟨⟨#[]⟩, 0, 0, 0, 0, 0, 0⟩ : OpRow).enc).toArray

section
variable {P : Program}
/-- Composite literals in a row, none of them guarded. -/
def bldAll (P : Program) : List Oper → Act → Option Act
 | [], a => some a
 | o :: r, a =>
  match o.guard, o.op with
  | none, .build t parts =>
   match P.built t (parts.map fun (i, x) => (i, a.eval x)).toList with
   | some cells => bldAll P r (a.put o.dst (.agg cells))
   | none => none
  | _, _ => none
theorem wpList_bldAll {ops : Array Oper} {Q : Exit → Act → World → Prop} {rest : List Oper} {a' : Act} {w : World} : ∀ (os : List Oper) (a : Act), bldAll P os a = some a' → wpList P ops Q rest a' w → wpList P ops Q (os ++ rest) a w
 | [], a, h, hk => by cases h; exact hk
 | o :: r, a, h, hk => by
  unfold bldAll at h
  split at h
  ·rename_i t parts hg ho
   split at h
   ·rename_i cells hc
    refine wpList_build hg t parts ho (by rw [hc]; rfl) ?_
    rw [hc]
    exact wpList_bldAll r _ h hk
   ·cases h
  ·cases h
theorem wpList_blds {ops : Array Oper} {Q : Exit → Act → World → Prop} {l : List Oper} {a : Act} {w : World} (n : Nat) (x y : Operand) (vx vy : Value)
  (h : ((bldAll P (l.take n) a).map fun A => (A.eval x, A.eval y, A.defers)) = some (vx, vy, []))
  (hk : ∀ A : Act, A.eval x = vx → A.eval y = vy → A.defers = [] → wpList P ops Q (l.drop n) A w) : wpList P ops Q l a w := by
 obtain ⟨A, hA, hE⟩ := Option.map_eq_some_iff.1 h
 simp only [Prod.mk.injEq] at hE
 obtain ⟨h1, h2, h3⟩ := hE
 rw [← List.take_append_drop n l]
 exact wpList_bldAll _ _ hA (hk A h1 h2 h3)
theorem wpList_eq {ops : Array Oper} {Q : Exit → Act → World → Prop} {l l' : List Oper} {a : Act} {w : World} (e : l = l') (h : wpList P ops Q l' a w) : wpList P ops Q l a w := e ▸ h
end
theorem alloc_setRow (w : World) (z T : Array Value) (t : TypeId) : (w.alloc (.cells z t)).setRow w.heap.size T = w.alloc (.cells T t) := by
 have h : ∀ (a : Array Obj) (x y : Obj) (f : Obj → Obj), f x = y → (a.push x).modify a.size f = a.push y := by
  intro a x y f hf
  apply Array.ext
  ·simp
  ·intro i h1 h2
   rw [Array.getElem_modify]
   by_cases hi : i = a.size
   ·subst hi; simp [hf]
   ·rw [if_neg (by omega), Array.getElem_push_lt (by simp at h2; omega), Array.getElem_push_lt (by simp at h2; omega)]
 exact congrArg (fun H => ({ w with heap := H } : World)) (h w.heap (.cells z t) (.cells T t) (fun o => match o with | .cells _ e fr => .cells T e fr | o => o) rfl)
set_option maxRecDepth 100000 in
set_option maxHeartbeats 4000000 in
theorem table_any (w : World) : Calls Tryz.prog 168 #[] w fun e w' => e = .returned (.agg opTab) ∧ w' = w.alloc (.cells opTab 240) := by
 go_enter Tryz.func168, Tryz.ntmps168
 refine wp_seq (wp_region_list ?_)
 refine Great.wpList_allocTo (by rfl) _ rfl (.pointer (some ⟨w.heap.size, 0, none⟩)) (.cells opZero 240) (by kernel_rfl) ?_
 refine wpList_nil ?_
 refine wp_seq (wp_region_list ?_)
 refine wpList_blds 87 (.tmp 0) (.tmp 87) (.pointer (some ⟨w.heap.size, 0, none⟩)) (.agg opTab) (by kernel_rfl) ?_
 intro A h0 h1 hd
 refine wpList_eq (by rfl) ?_
 refine wpList_store_row rfl _ _ _ rfl w.heap.size opTab h0 h1 240 opZero (heap_alloc_new w _) (by kernel_rfl) (by kernel_rfl) (by kernel_rfl) ?_
 refine wpList_nil ?_
 refine wp_ret ?_
 refine bodyPost_ret (results_cell_row (by rfl) _ _ w.heap.size 240 opTab (0, 0) _ h0 (setRow_heap _ _ opZero _ _ _ (heap_alloc_new w _)) Tryz.underlying240 rfl (by kernel_rfl)) hd ⟨rfl, ?_⟩
 exact alloc_setRow _ _ _ _
end Go.Proofs.YtmnbalbiehlkpaaGreatDoor
