/- The layer ops: get, Form. -/
import Derived.Test.YtmnbalbiehlkpaaGreatDoorJOps
set_option linter.unusedVariables false
set_option linter.unusedSimpArgs false
namespace Go.Proofs.YtmnbalbiehlkpaaGreatDoor
open Go.RowKit

def noneRow : OpRow := ⟨⟨#[]⟩, -1, 0, 0, 0, 0, 0⟩
/-- An operation's row. -/
def rowOf (n : Int) : OpRow := if 0 ≤ n ∧ n < 86 then opRows.getD n.toNat noneRow else noneRow
def OpRow.val (r : OpRow) : Value := .agg #[.string r.name, .int .i64 r.form, .int .i64 r.bits, .int .u8 r.code, .int .i64 r.src, .int .i64 r.off, .int .i64 r.imm]
theorem flat_at {α : Type} (f : α → List Value) (hf : ∀ x, (f x).length = 7) : ∀ (l : List α) (k : Nat) (x : α), l[k]? = some x → ((l.flatMap f).drop (k * 7)).take 7 = f x
 | [], k, x, h => by simp at h
 | y :: l, 0, x, h => by
  obtain rfl : y = x := by simpa using h
  simp [List.take_append_of_le_length, hf, List.take_of_length_le]
 | y :: l, k + 1, x, h => by
  have e : (k + 1) * 7 = (f y).length + k * 7 := by rw [hf]; omega
  rw [List.flatMap_cons, e, List.drop_append, List.drop_of_length_le (by omega), List.nil_append, Nat.add_sub_cancel_left]
  exact flat_at f hf l k x (by simpa using h)
theorem opRows_length : opRows.length = 86 := by rfl
theorem opTab_at (n : Nat) (h : n < 86) : Value.agg (opTab.extract (n * 7) (n * 7 + 7)) = (rowOf n).val := by
 have hk : opRows[n]? = some (rowOf n) := by
  unfold rowOf
  rw [if_pos (by omega)]
  simp only [Int.toNat_natCast, List.getD_eq_getElem?_getD]
  rw [List.getElem?_eq_getElem (by rw [opRows_length]; exact h)]
  rfl
 have h1 := flat_at OpRow.enc (fun _ => rfl) opRows n _ hk
 have h2 : (opTab.extract (n * 7) (n * 7 + 7)).toList = (rowOf n).enc := by
  rw [← h1]
  simp [opTab, List.take_drop]
 have h3 : opTab.extract (n * 7) (n * 7 + 7) = (rowOf n).enc.toArray := Array.ext' (by simpa using h2)
 rw [h3]
 rfl
theorem run_index_tab (n : Nat) (h : n < 86) (w : World) : (Instr.index 240 (.agg opTab) (.int .i64 n)).run Tryz.prog w = .ok (rowOf n).val w := by
 rw [← opTab_at n h]
 have hn : ((0 : Int) ≤ (n : Int) ∧ (n : Int) < 86) := by omega
 have hz : (Tryz.prog.info? 190).map (·.size) = some 7 := by kernel_rfl
 obtain ⟨i, hi, hs⟩ := Option.map_eq_some_iff.1 hz
 have hu := Tryz.underlying240
 have hv := Tryz.underlying190
 simp [Instr.index, asIntOf, run_underlying hu, hn, part, isAgg, run_underlying hv, sizeOf, typeInfo, hi, hs]
 exact fun h2 => absurd h (by omega)
/-- What the variable none of ops holds. -/
structure OpsN (w : World) : Prop where
 k0 : w.cell? ⟨1, 0, none⟩ = some (.string ⟨#[]⟩)
 k1 : w.cell? ⟨1, 1, none⟩ = some (.int .i64 (-1))
 k2 : w.cell? ⟨1, 2, none⟩ = some (.int .i64 0)
 k3 : w.cell? ⟨1, 3, none⟩ = some (.int .u8 0)
 k4 : w.cell? ⟨1, 4, none⟩ = some (.int .i64 0)
 k5 : w.cell? ⟨1, 5, none⟩ = some (.int .i64 0)
 k6 : w.cell? ⟨1, 6, none⟩ = some (.int .i64 0)
theorem OpsN.ext {w w' : World} (h : OpsN w) (he : Ext w w') : OpsN w' := ⟨he.cell h.k0, he.cell h.k1, he.cell h.k2, he.cell h.k3, he.cell h.k4, he.cell h.k5, he.cell h.k6⟩
/-- An operation that has a row, or what the variable for the others holds. -/
def OpsQ (n : Int) (w : World) : Prop := (0 ≤ n ∧ n < 86) ∨ OpsN w
theorem OpsQ.ext {n : Int} {w w' : World} (h : OpsQ n w) (he : Ext w w') : OpsQ n w' := h.imp id fun h => h.ext he
instance {n : Int} {w : World} : Coe (OpsN w) (OpsQ n w) := ⟨Or.inr⟩
set_option maxRecDepth 40000 in
set_option maxHeartbeats 4000000 in
theorem opGet_any (n : Int) (w : World) (hn : I64 n) (hO : OpsQ n w) :
  Calls Tryz.prog 100 #[.int .i64 n] w fun e w' => e = .returned (rowOf n).val ∧ Ext w w' := by
 by_cases h : 0 ≤ n ∧ n < 86
 ·obtain ⟨k, rfl⟩ := Int.eq_ofNat_of_zero_le h.1
  have hI := fun W => run_index_tab k (by omega) W
  have d1 : decide ((k : Int) < 0) = false := decide_eq_false (by omega)
  have d2 : decide ((k : Int) ≥ 86) = false := decide_eq_false (by omega)
  have hk : (k : Int) < 86 := h.2
  generalize rowOf (k : Int) = r at *
  unfold OpRow.val at *
  clear hO h
  go_enter Tryz.func100, Tryz.ntmps100
  go_wp2_with (go_at_call 168; refine (table_any _).mono ?_; rintro e w1 ⟨rfl, rfl⟩)
  refine bodyPost_ret (results_cell_row (by rfl) _ _ w.heap.size 190 _ (0, 0) _ (by rfl) (by rw [heap_alloc_old _ _ (by simp)]; exact heap_alloc_new w _) Tryz.underlying190 rfl (by kernel_rfl)) rfl ?_
  exact ⟨rfl, (Ext.new _ _).alloc _⟩
 ·have hr : rowOf n = noneRow := if_neg h
  rw [hr]
  have e0 := (hO.resolve_left h).ext (Ext.new w (.cells #[.string ⟨#[]⟩, .int .i64 0, .int .i64 0, .int .u8 0, .int .i64 0, .int .i64 0, .int .i64 0] 190))
  obtain ⟨k0, k1, k2, k3, k4, k5, k6⟩ := e0
  by_cases h0 : n < 0
  ·have d1 : decide (n < 0) = true := decide_eq_true h0
   clear h hO hr
   go_enter Tryz.func100, Tryz.ntmps100
   go_wp2
   refine bodyPost_ret (results_cell_row (by rfl) _ _ w.heap.size 190 _ (0, 0) _ (by rfl) (heap_alloc_new w _) Tryz.underlying190 rfl (by kernel_rfl)) rfl ?_
   exact ⟨rfl, Ext.new _ _⟩
  ·have d1 : decide (n < 0) = false := decide_eq_false h0
   have d2 : decide (n ≥ 86) = true := decide_eq_true (by omega)
   clear h hO hr
   go_enter Tryz.func100, Tryz.ntmps100
   go_wp2
   refine bodyPost_ret (results_cell_row (by rfl) _ _ w.heap.size 190 _ (0, 0) _ (by rfl) (heap_alloc_new w _) Tryz.underlying190 rfl (by kernel_rfl)) rfl ?_
   exact ⟨rfl, Ext.new _ _⟩
theorem run_fields (r : OpRow) (w : World) : (Instr.field 190 r.val 1).run Tryz.prog w = .ok (.int .i64 r.form) w ∧ (Instr.field 190 r.val 3).run Tryz.prog w = .ok (.int .u8 r.code) w ∧
  (Instr.field 190 r.val 4).run Tryz.prog w = .ok (.int .i64 r.src) w ∧ (Instr.field 190 r.val 5).run Tryz.prog w = .ok (.int .i64 r.off) w ∧ (Instr.field 190 r.val 6).run Tryz.prog w = .ok (.int .i64 r.imm) w :=
 ⟨by kernel_rfl, by kernel_rfl, by kernel_rfl, by kernel_rfl, by kernel_rfl⟩
/-- An operation's form. -/
def formN (n : Int) : Int := (rowOf n).form
set_option maxRecDepth 40000 in
theorem opForm_any (n : Int) (w : World) (hn : I64 n) (hO : OpsQ n w) :
  Calls Tryz.prog 65 #[.int .i64 n] w fun e w' => e = .returned (.int .i64 (formN n)) ∧ Ext w w' := by
 have h := opGet_any n w hn hO
 unfold formN
 generalize rowOf n = r at *
 have hF := fun W => (run_fields r W).1
 unfold OpRow.val at h hF
 have H := hx h
 clear h hO
 go_enter Tryz.func65, Tryz.ntmps65
 go_wp2_with (go_at_call 100; refine H.out.mono ?_; rintro e w1 ⟨rfl, e1⟩)
 go_ret
 exact ⟨rfl, e1⟩
end Go.Proofs.YtmnbalbiehlkpaaGreatDoor
